/- slices.Contains at strings. (printed by gen_mgcont.py) What the merge of events gives, in plain words: IDs, sizes, and the order behind document.Sort. The contract of merge.header: title, language and rate of the merged document. (printed by gen_mgheader.py) Which IDs are given anew: what the program's lists say is what the contents say; the merger's block behind the header. The plain law of MergeUnchanged, put together: each of its three merges is refused alike, or gives the changed side without a clash. merge.renamed where nothing is to be renamed: a copy of the document. merge.comments' note: a clash of a comment. What the merge of comments gives, in plain words: IDs and sizes. -/
import Derived.Test.YtnlnmbcaongehaaGreatDoorM15
import Derived.Test.YtnlnmbcaongehaaGreatDoorM17
import Derived.Test.YtnlnmbcaongehaaGreatDoorM13
set_option linter.unusedVariables false
set_option linter.unusedSimpArgs false
set_option maxRecDepth 100000
set_option maxHeartbeats 12800000
open Go.Lib renaming hid→h_
open Go renaming cell_of_row→fm,heap_setCell_same→fp,World→ft,heap_alloc_last→fu,Value→fw,Calls→fB
open Go.Value renaming string→fC
open List renaming length_append→fD,flatMap_cons→fE,flatMap_append→fF,take_add_one→fG,filter_eq_nil_iff→fH,length_mergeSort→fI,mem_of_getElem?→fJ,pairwise_cons→fK,find?_isSome→fL,take_length→fM,length_cons→fN,mem_map→fO
open Go.RowKit renaming Below→fP
open Go.RowKit.Below renaming refl→fQ,heap_alloc→fR
open Option.some renaming inj→fS,injEq→fT
open Option renaming map_eq_some_iff→fU,isSome_map→fV,mem_toList→fW,mem_def→fX
open Nat renaming le_refl→fY,le_trans→fZ
open Go.Lib renaming compact_length_le→f_,compact→gd
open Array renaming getElem?_eq_some_iff→gf
open Go.World renaming frozen?→gh,ownsRow_nil→gj,size_alloc→gl
namespace Go.Proofs.YtnlnmbcaongehaaGreatDoor
open Go.RowKit
def strW (x:ByteArray):List fw:=[.string x]
theorem zjj (fs:List ByteArray):fs.flatMap strW=fs.map fC:=by
 induction fs with
 | nil=>rfl
 | cons x l ih=>rw [fE,ih];rfl
def eA (f:ByteArray)(fs:List ByteArray):Bool:=fs.any fun g=>f.toList==g.toList
def idxOf:Option (ByteArray × Nat)→Int
 | some (_,k)=>k
 | none=>-1
theorem ziG (f:ByteArray):∀ (fs:List ByteArray)(i:Nat),decide (0≤idxOf (bj (fun g:ByteArray=>f.toList==g.toList) fs i))=eA f fs
 | [],i=>by simp [bj,idxOf,eA]
 | y::l,i=>by
   have ih:=ziG f l (i+1)
   unfold bj eA
   rw [List.any_cons]
   cases hp:(f.toList==y.toList)
   · simp only [Bool.false_eq_true,if_false,Bool.false_or]
     exact ih
   · simp [idxOf]
theorem zdj (a:Option Addr)(cap:Nat)(fs:List ByteArray)(f:ByteArray)(w:ft)(h:af 1 strW Flat w a fs)(hl:fs.length≤4000000) :
 fB Tryz.prog 201 #[.slice a fs.length cap,.string f] w fun e w'=>e=.returned (.int .i64 (idxOf (first (fun g:ByteArray=>f.toList==g.toList) fs)))∧fP w.heap.size w w':=by
 generalize hG:first (fun g:ByteArray=>f.toList==g.toList) fs=G
 have H0:=h_ (show bj (fun g:ByteArray=>f.toList==g.toList) (fs.drop 0) 0=G from hG)
 have HSL:=h_ h
 generalize hQ:(fun(e:Ending) (w':ft)=>e=.returned (.int .i64 (idxOf G))∧fP w.heap.size w w')=Q
 have HQ:=h_ (fun(w':ft) (v:Int) (h:idxOf G=v) (hb:fP w.heap.size w w')=>(show Q (.returned (.int .i64 v)) w' from hQ▸⟨by rw [h],hb⟩))
 have HFR:=h_ (fun(k:Nat) (x:ByteArray) (hx:fs[k]? =some x)=>zfv (fun g:ByteArray=>f.toList==g.toList) fs k x hx)
 clear hQ hG h
 go_enter Tryz.func201,Tryz.ntmps201
 go_wp2_with fail
 go_loopw [8] (fun i wr=>∃ k:Nat,k≤fs.length∧i=.int .i64 k∧bj (fun g:ByteArray=>f.toList==g.toList) (fs.drop k) k=G∧wr=w) (fun i _=>fs.length-(intOf i).toNat)
 case atStart=>exact⟨0,by omega,rfl,H0.out,rfl⟩
 case round =>
  obtain⟨k,hk,rfl,hp,rfl⟩:=hrel
  by_cases hlt:k<fs.length
  · obtain⟨b,off,x,rfl,hbl,hxk,hc,_⟩:=HSL.out.at_ hlt
    rw [HFR.out k x hxk] at hp
    have d0:=hc 0 _ rfl
    simp only [Nat.mul_one,Nat.add_zero] at d0
    clear hc hxk
    cases hkq:(f.toList==x.toList)
    · rw [if_neg (by rw [hkq];decide)] at hp
      have HP:=h_ hp
      clear hp H0
      go_wp2_with fail
      go_roundw
      case rel=>exact⟨k+1,by omega,by go_num,HP.out,trivial⟩
      case measure=>simp [intOf];omega
    · rw [if_pos hkq] at hp
      have HP:=h_ hp
      clear hp H0
      go_wp2_with fail
      exact HQ.out _ _ (by rw [←HP.out];rfl) (fQ _ _)
  · obtain rfl:k=fs.length:=by omega
    rw [List.drop_length,bj] at hp
    have HP:=h_ hp
    clear hp H0
    go_wp2_with fail
    exact HQ.out _ _ (by rw [←HP.out];rfl) (fQ _ _)
theorem zdu (a:Option Addr)(cap:Nat)(fs:List ByteArray)(f:ByteArray)(w:ft)(h:af 1 strW Flat w a fs)(hl:fs.length≤4000000) :
 fB Tryz.prog 138 #[.slice a fs.length cap,.string f] w fun e w'=>e=.returned (.bool (eA f fs))∧fP w.heap.size w w':=by
 have HI:=h_ (zdj a cap fs f w h hl)
 have hi:=ziG f fs 0
 unfold first at HI
 generalize idxOf (bj (fun g:ByteArray=>f.toList==g.toList) fs 0)=I at *
 generalize eA f fs=H at *
 subst hi
 clear h
 go_enter Tryz.func138,Tryz.ntmps138
 go_wp2_with fail
 refine HI.out.mono ?_
 rintro e w1 ⟨rfl,hb⟩
 go_wp2_with fail
 go_ret
 exact⟨rfl,hb⟩
theorem zjv (rG:List Reg)(p:EvC × List ByteArray):(dv rG p).1.id=p.1.id:=by
 unfold dv
 split<;>rfl
theorem zjx {x y z:Option EvC} {id:Int} (hx:∀ e,x=some e→e.id=id)(hy:∀ e,y=some e→e.id=id)(hz:∀ e,z=some e→e.id=id)(hne:¬ (x=none∧y=none∧z=none)) {p:EvC × List ByteArray} (h:zag x y z=some p):p.1.id=id:=by
 cases x with
 | none =>
   cases y with
   | none =>
     cases z with
     | none=>exact absurd ⟨rfl,rfl,rfl⟩ hne
     | some e =>
       simp only [zag,fT] at h
       rw [←h]
       exact hz e rfl
   | some e =>
     simp only [zag,fT] at h
     rw [←h]
     exact hy e rfl
 | some a =>
   cases y with
   | none =>
     cases z with
     | none=>simp [zag] at h
     | some e =>
       simp only [zag] at h
       split at h
       · cases h
       · rw [←fS h]
         exact hz e rfl
   | some e =>
     cases z with
     | none =>
       simp only [zag] at h
       split at h
       · cases h
       · rw [←fS h]
         exact hy e rfl
     | some f =>
       simp only [zag,fT] at h
       rw [←h]
       exact hx a rfl
theorem zix {rG:List Reg} {a b c:List EvC} {id:Int} (hid:id∈bE a b c) {p:EvC × List ByteArray} (h:mgEv rG a b c id=some p):p.1.id=id:=by
 obtain⟨q,hq,rfl⟩:=fU.1 h
 rw [zjv]
 refine zjx (fun e he=>(zcO he).2) (fun e he=>(zcO he).2) (fun e he=>(zcO he).2) ?_ hq
 rintro ⟨h1,h2,h3⟩
 rcases((zaX a b c).2 id).1 hid with h|h|h
 · exact zaD h1 h
 · exact zaD h2 h
 · exact zaD h3 h
theorem ziN {rG:List Reg} {a b c:List EvC}:∀ ids:List Int,ids.Pairwise (·<·)→(∀ id∈ids,id∈bE a b c)→(eH rG a b c ids).Pairwise fun x y=>x.id<y.id
 | [],_,_=>List.Pairwise.nil
 | id::l,h,hm=>by
   have ih:=ziN (rG:=rG) l (fK.1 h).2 fun i hi=>hm i (by simp [hi])
   unfold eH at *
   rw [fE]
   refine List.pairwise_append.2 ⟨?_,ih,fun x hx y hy=>?_⟩
   · cases ((mgEv rG a b c id).map (·.1))<;>simp
   · rw [fW] at hx
     obtain⟨p,hp,rfl⟩:=fU.1 (fX.1 hx)
     obtain⟨j,hj,hy⟩:=List.mem_flatMap.1 hy
     rw [fW] at hy
     obtain⟨q,hq,rfl⟩:=fU.1 (fX.1 hy)
     rw [zix (hm id (by simp)) hp,zix (hm j (by simp [hj])) hq]
     exact(fK.1 h).1 j hj
theorem zh5 {zs ys:List Ev} (hp:(ys.map Ev.c).Perm (zs.map Ev.c))(hs:ys.Pairwise fun x y=>ltOf zcW y x=false)(hi:(zs.map Ev.c).Pairwise fun x y=>x.id<y.id):ys.map Ev.c=dD (zs.map Ev.c):=by
 refine zaU hp ?_ (hi.imp fun h=>by omega)
 rw [List.pairwise_map]
 refine hs.imp fun {x y} h=>?_
 rw [za5] at h
 simp only [decide_eq_false_iff_not] at h
 simp only [evLe,decide_eq_true_eq]
 show x.inn<y.inn∨(x.inn=y.inn∧x.id≤y.id)
 omega
theorem cN {α:Type} (eq:α→α→Bool)(x y z:α)(P:α→Prop)(hx:P x)(hy:P y)(hz:P z):P (ai eq x y z).1:=by
 rcases zgz eq x y z with h|h|h<;>rw [h]<;>assumption
theorem zf0 {x y z:EvC} (hx:x.fits)(hy:y.fits)(hz:z.fits):(eV x y z).fits:=by
 obtain⟨x1,x2,x3,x4,x5,x6,x7,x8,x9⟩:=hx
 obtain⟨y1,y2,y3,y4,y5,y6,y7,y8,y9⟩:=hy
 obtain⟨z1,z2,z3,z4,z5,z6,z7,z8,z9⟩:=hz
 have h1:=cN bR (x.inn,x.out) (y.inn,y.out) (z.inn,z.out) (fun p=>i64 p.1∧i64 p.2) ⟨x2,x3⟩ ⟨y2,y3⟩ ⟨z2,z3⟩
 have h2:=cN b_ x.region y.region z.region (fun p=>p.size≤4000000) x4 y4 z4
 have h3:=cN dU x.kind y.kind z.kind (fun p=>0≤p∧p≤255) ⟨x5,x6⟩ ⟨y5,y6⟩ ⟨z5,z6⟩
 have h4:=cN b_ x.speaker y.speaker z.speaker (fun p=>p.size≤4000000) x7 y7 z7
 have h5:=cN zbl x.rows y.rows z.rows (fun p=>(∀ r∈p,(∀ y∈r,y.fits)∧r.length≤4000000∧bQ r≤4000000)∧p.length≤4000000) ⟨x8,x9⟩ ⟨y8,y9⟩ ⟨z8,z9⟩
 exact⟨x1,h1.1,h1.2,h2,h3.1,h3.2,h4,h5.1,h5.2⟩
theorem eh (b:Bool)(f:ByteArray):(fIf b f).length≤1:=by cases b<;>simp [fIf]
theorem zhw (x y z:EvC):(bf x y z).length≤5:=by
 unfold bf
 simp only [fD]
 have h1:=eh (zaO x y z).2 dV
 have h2:=eh (ed x y z).2 az
 have h3:=eh (zcx x y z).2 zb5
 have h4:=eh (dj x y z).2 cV
 have h5:=eh (zgE x y z).2 zhH
 omega
theorem zdQ (rG:List Reg)(a b c:List EvC)(ids:List Int)(k:Nat)(id:Int)(h:ids[k]? =some id):eH rG a b c (ids.take (k+1))=eH rG a b c (ids.take k)++((mgEv rG a b c id).map (·.1)).toList:=by
 unfold eH
 rw [fG,h,fF]
 simp
def ei (id:Int)(fs:List ByteArray):List Cl:=fs.map fun f=>⟨3,id,ak,f⟩
theorem zcz (rG:List Reg)(a b c:List EvC)(ids:List Int)(k:Nat)(id:Int)(h:ids[k]? =some id):cg rG a b c (ids.take (k+1))=cg rG a b c (ids.take k)++ei id (((mgEv rG a b c id).map (·.2)).getD []):=by
 unfold cg ei
 rw [fG,h,fF]
 simp
theorem zcN (a b c:List EvC):(bE a b c).length≤a.length+b.length+c.length:=by
 refine fZ (f_ _) ?_
 unfold bo
 rw [fI]
 simp
 omega
theorem ziS {a b c:List EvC} (ha:∀ e∈a,e.fits)(hb:∀ e∈b,e.fits)(hc:∀ e∈c,e.fits) {id:Int} (h:id∈bE a b c):i64 id:=by
 rcases((zaX a b c).2 id).1 h with⟨e,he,rfl⟩|⟨e,he,rfl⟩|⟨e,he,rfl⟩
 · exact(ha e he).1
 · exact(hb e he).1
 · exact(hc e he).1
theorem zfi {x y z:Option EvC} {p:EvC × List ByteArray} (h:zag x y z=some p):p.2.length≤5:=by
 cases x<;>cases y<;>cases z<;>simp only [zag,fT,reduceCtorEq] at h
 all_goals first
  | (rw [←h];exact zhw _ _ _)
  | (rw [←h];simp)
  | (split at h
     · cases h
     · rw [←fS h];simp)
theorem zfh (rG:List Reg)(p:EvC × List ByteArray):(dv rG p).2.length≤p.2.length+1:=by
 unfold dv
 split
 · omega
 · simp only
   split
   · omega
   · simp
theorem zjw {rG:List Reg} {a b c:List EvC} {id:Int} {p:EvC × List ByteArray} (h:mgEv rG a b c id=some p):p.2.length≤6:=by
 obtain⟨q,hq,rfl⟩:=fU.1 h
 have:=zfi hq
 have:=zfh rG q
 omega
theorem eT (rG:List Reg)(a b c:List EvC):∀ ids:List Int,(eH rG a b c ids).length≤ids.length∧(cg rG a b c ids).length≤6*ids.length
 | []=>by simp [eH,cg]
 | id::l=>by
   have ih:=eT rG a b c l
   have h1:((mgEv rG a b c id).map (·.1)).toList.length≤1:=by cases (mgEv rG a b c id)<;>simp
   have h2:((((mgEv rG a b c id).map (·.2)).getD []).map fun f=>(⟨3,id,ak,f⟩:Cl)).length≤6:=by
    cases hq:mgEv rG a b c id with
    | none=>simp
    | some p =>
      have:=zjw hq
      simpa using this
   unfold eH cg at *
   rw [fE,fE,fD,fD,fN]
   omega
theorem zkJ {xs ys zs:List Ev} {l:List Int} (h1:l.Pairwise (·<·))(F:Nat→Int→Option fw)(hF:F 0=aM xs∧F 1=aM ys∧F 2=aM zs)(h2:∀ z,z∈l↔∃ j,j<3∧(F j z).isSome=true):l=bE (xs.map Ev.c) (ys.map Ev.c) (zs.map Ev.c):=by
 obtain⟨q1,q2⟩:=zaX (xs.map Ev.c) (ys.map Ev.c) (zs.map Ev.c)
 have key:∀ (ws:List Ev) (k:Int),(aM ws k).isSome=true↔∃ e∈ws.map Ev.c,e.id=k:=fun ws k=>by
  unfold aM
  rw [fV,fL]
  constructor
  · rintro ⟨e,he,hk⟩
    exact⟨e.c,fO.2 ⟨e,he,rfl⟩,by have q:e.id=k:=by simpa using hk
                                 exact q⟩
  · rintro ⟨c,hc,hk⟩
    obtain⟨e,he,rfl⟩:=fO.1 hc
    exact⟨e,he,by have q:e.id=k:=hk
                  simpa using q⟩
 refine zcY (fun a b:Int=>a<b) (fun a h=>by omega) (fun a b h h'=>by omega) _ _ h1 q1 fun k=>?_
 rw [h2,q2,←key xs,←key ys,←key zs,←hF.1,←hF.2.1,←hF.2.2]
 constructor
 · rintro ⟨j,hj,h⟩
   rcases(show j=0∨j=1∨j=2 by omega) with rfl|rfl|rfl
   · exact .inl h
   · exact .inr (.inl h)
   · exact .inr (.inr h)
 · rintro (h|h|h)
   · exact⟨0,by omega,h⟩
   · exact⟨1,by omega,h⟩
   · exact⟨2,by omega,h⟩
end Go.Proofs.YtnlnmbcaongehaaGreatDoor
namespace Go.Proofs.YtnlnmbcaongehaaGreatDoor
open Go.RowKit
theorem zb4 (f:ByteArray)(w:ft):fB Tryz.prog 127 #[.string f] w fun e w'=>e=.returned (.agg (⟨1,0,ak,f⟩:Cl).enc.toArray)∧fP w.heap.size w w':=by
 simp only [Cl.enc,ak]
 have hk:=fun(o:Array fw)=>fu w (.cells o 135)
 go_enter Tryz.func127,Tryz.ntmps127
 go_wp2_with fail
 refine bodyPost_ret (v:=.agg #[.int .u8 1,.int .i64 0,.string ⟨#[]⟩,.string f]) (by simp [results,Tryz.results127,go_sem]) rfl ⟨rfl,?_⟩
 exact(fQ _ _).alloc (fY _) _
structure HSt (w:ft)(g:Nat)(X Y Z arr:Array fw)(cls:List Cl)(wr:ft):Prop where
 x:wr.heap[w.heap.size]? =some (.cells X 27 (0,0))
 y:wr.heap[w.heap.size+1]? =some (.cells Y 27 (0,0))
 z:wr.heap[w.heap.size+1+1]? =some (.cells Z 27 (0,0))
 cl:∃ kv,ClAt (w.heap.size+3) g arr kv cls wr
 kept:Kept (fun b=>b=g) w wr
section
variable {w wr w':ft} {g:Nat} {X Y Z arr:Array fw} {cls:List Cl}
theorem HSt.lt (h:HSt w g X Y Z arr cls wr):w.heap.size+1+1<wr.heap.size:=(gf.1 h.z).1
theorem HSt.gcells (h:HSt w g X Y Z arr cls wr):wr.heap[g]? =some (.cells arr 142 (0,0)):=by
 obtain⟨kv,hk⟩:=h.cl
 exact hk.cells
theorem HSt.later (h:HSt w g X Y Z arr cls wr)(hb:fP wr.heap.size wr w'):HSt w g X Y Z arr cls w':=by
 have hl:=h.lt
 obtain⟨kv,hk⟩:=h.cl
 exact⟨(hb.block _ (by omega)).trans h.x,(hb.block _ (by omega)).trans h.y,(hb.block _ (by omega)).trans h.z,⟨kv,hk.later hb⟩,h.kept.andBelow hb⟩
theorem HSt.set (h:HSt w g X Y Z arr cls wr)(hg:g<w.heap.size)(j:Nat)(hj:j≠8)(u:fw):HSt w g X Y Z (arr.setIfInBounds j u) cls (wr.setCell ⟨g,j,none⟩ u):=by
 have hs:∀ b,b≠g→(wr.setCell ⟨g,j,none⟩ u).heap[b]? =wr.heap[b]?:=fun b hb=>fP.heap_setCell _ _ _ _ hb
 obtain⟨kv,hk⟩:=h.cl
 refine⟨(hs _ (by omega)).trans h.x,(hs _ (by omega)).trans h.y,(hs _ (by omega)).trans h.z,⟨kv,fp _ _ _ _ _ _ hk.cells,?_,ah hk.own fun b hb=>hs b (fun e=>hk.apart (by rw [hb,e])),hk.apart⟩,h.kept.setCell (.inr rfl) _⟩
 rw [Array.getElem?_setIfInBounds,if_neg hj]
 exact hk.atIx
theorem HSt.clash (h:HSt w g X Y Z arr cls wr)(hg:g<w.heap.size)(hl:cls.length≤1000)(is:Bool)(c:Cl):fB Tryz.prog 130 #[.pointer (some ⟨g,0,none⟩),.bool is,.agg c.enc.toArray] wr fun e w'=>e=.returned (.tuple #[])∧∃ kv',HSt w g X Y Z (arr.setIfInBounds 8 kv') (cls++clIf is c) w':=by
 have hlt:=h.lt
 obtain⟨kv,hk⟩:=h.cl
 refine(ek _ _ arr kv cls is c wr hk (by omega) (by omega)).mono fun e w' p=>?_
 obtain⟨he,v',q1,q2,q3⟩:=p
 have hb:∀ b,kv.ownBlock=some b→w.heap.size+3≤b:=fun b hb=>(hk.own.lt b hb).1
 have hkp:∀ b,b<wr.heap.size→b≠g→b<w.heap.size+3→w'.heap[b]? =wr.heap[b]?:=fun b h1 h2 h3=>q2.block b h1 fun hm=>by
  rcases hm with hm|hm
  · exact h2 hm
  · have:=hb b hm
    omega
 refine⟨he,v',(hkp _ (by omega) (by omega) (by omega)).trans h.x,(hkp _ (by omega) (by omega) (by omega)).trans h.y,(hkp _ (by omega) (by omega) (by omega)).trans h.z,⟨v',q1⟩,h.kept.trans q2 fun i hi hm=>?_⟩
 rcases hm with hm|hm
 · exact hm
 · have:=hb i hm
   omega
end
theorem zad (b:Bool)(c:Cl):(clIf b c).length≤1:=by cases b<;>simp [clIf]
def zgY (x y z:Hd)(la:Int)(g:Nat)(w:ft)(e:Ending)(w':ft):Prop:=e=.returned (.tuple #[])∧∃ kv,ClAt w.heap.size g #[.string (zay x y z).1,.string (zcw x y z).1,.int .u8 (zaP x y z).1.1,.bool (zaP x y z).1.2,.int .i64 la,.slice none 0 0,.slice none 0 0,.slice none 0 0,kv] kv (zcy x y z) w'∧Kept (fun b=>b=g) w w'
theorem zdg (x y z:Doc)(g:Nat)(la:Int)(w:ft)(hg:w.heap[g]? =some (.cells #[fC ⟨#[]⟩,.string ⟨#[]⟩,.int .u8 0,.bool false,.int .i64 la,.slice none 0 0,.slice none 0 0,.slice none 0 0,.slice none 0 0] 142 (0,0))) :
 fB Tryz.prog 77 #[.pointer (some ⟨g,0,none⟩),.agg x.enc.toArray,.agg y.enc.toArray,.agg z.enc.toArray] w (zgY x.hd y.hd z.hd la g w):=by
 have hgl:g<w.heap.size:=(gf.1 hg).1
 have HV1:=h_ (fun w1=>bm x.title y.title z.title w1)
 have HV2:=h_ (fun w1=>bm x.lang y.lang z.lang w1)
 have HV3:=h_ (fun w1=>zcj (x.rate,x.drop) (y.rate,y.drop) (z.rate,z.drop) w1)
 have e1:ai b_ x.title y.title z.title=zay x.hd y.hd z.hd:=rfl
 have e2:ai b_ x.lang y.lang z.lang=zcw x.hd y.hd z.hd:=rfl
 have e3:ai bV (x.rate,x.drop) (y.rate,y.drop) (z.rate,z.drop)=zaP x.hd y.hd z.hd:=rfl
 rw [e1] at HV1
 rw [e2] at HV2
 rw [e3] at HV3
 have HQ:Hid (∀ (s1 s2:ByteArray) (s3:Int) (s4 c1 c2 c3:Bool),zay x.hd y.hd z.hd=(s1,c1)→zcw x.hd y.hd z.hd=(s2,c2)→zaP x.hd y.hd z.hd=((s3,s4),c3)→∀ kv w',ClAt w.heap.size g #[fC s1,.string s2,.int .u8 s3,.bool s4,.int .i64 la,.slice none 0 0,.slice none 0 0,.slice none 0 0,kv] kv (clIf c1 ⟨1,0,ak,eX⟩++clIf c2 ⟨1,0,ak,zfw⟩++clIf c3 ⟨1,0,ak,ziM⟩) w'→Kept (fun b=>b=g) w w'→zgY x.hd y.hd z.hd la g w (.returned (.tuple #[])) w'):=h_ (fun s1 s2 s3 s4 c1 c2 c3 h1 h2 h3 kv w' hc hk=>by
  refine⟨rfl,kv,?_,hk⟩
  unfold zcy
  rw [h1,h2,h3]
  exact hc)
 clear e1 e2 e3
 generalize zgY x.hd y.hd z.hd la g w=Q at *
 generalize zay x.hd y.hd z.hd=p1 at *
 generalize zcw x.hd y.hd z.hd=p2 at *
 generalize zaP x.hd y.hd z.hd=p3 at *
 obtain⟨s1,c1⟩:=p1
 obtain⟨s2,c2⟩:=p2
 obtain⟨⟨s3,s4⟩,c3⟩:=p3
 have HST:=h_ (show HSt w g x.enc.toArray y.enc.toArray z.enc.toArray #[fC ⟨#[]⟩,.string ⟨#[]⟩,.int .u8 0,.bool false,.int .i64 la,.slice none 0 0,.slice none 0 0,.slice none 0 0,.slice none 0 0] [] (((w.alloc (.cells x.enc.toArray 27)).alloc (.cells y.enc.toArray 27)).alloc (.cells z.enc.toArray 27)) from by
  have hb:=box3 w x.enc.toArray y.enc.toArray z.enc.toArray 27 _ (fQ _ _)
  refine⟨hb.1,hb.2.1,hb.2.2,⟨.slice none 0 0,?_,rfl,gj _ _ _ _,by simp [fw.ownBlock]⟩,Kept.of_below (eK w _ _ _)⟩
  rw [(eK w _ _ _).block g hgl]
  exact hg)
 have HF:=h_ (fun(f:ByteArray) (w1:ft)=>zb4 f w1)
 obtain⟨xt,xl,xr,xd,xla,xra,xrc,xregs,xea,xec,xevs,xca,xcc,xcms⟩:=x
 obtain⟨yt,yl,yr,yd,yla,yra,yrc,yregs,yea,yec,yevs,yca,ycc,ycms⟩:=y
 obtain⟨zt,zl,zr,zd,zla,zra,zrc,zregs,zea,zec,zevs,zca,zcc,zcms⟩:=z
 simp only [Doc.enc,ay,Cl.enc] at *
 clear hg
 go_enter Tryz.func77,Tryz.ntmps77
 go_wp2_with fail
 refine(HV1.out _).mono ?_
 rintro e w1 ⟨rfl,hb1⟩
 have HS1:=h_ (HST.out.later hb1)
 clear hb1 HST HV1
 have fx1:∀ j,w1.cell? ⟨w.heap.size,j,none⟩=_:=fun j=>fm _ _ j _ 27 (0,0) HS1.out.x
 have fy1:∀ j,w1.cell? ⟨w.heap.size+1,j,none⟩=_:=fun j=>fm _ _ j _ 27 (0,0) HS1.out.y
 have fz1:∀ j,w1.cell? ⟨w.heap.size+1+1,j,none⟩=_:=fun j=>fm _ _ j _ 27 (0,0) HS1.out.z
 have fg1:∀ j,w1.cell? ⟨g,j,none⟩=_:=fun j=>fm _ _ j _ 142 (0,0) HS1.out.gcells
 have zg1:∀ j,w1.frozen? ⟨g,j,none⟩=false:=fun j=>by simp [gh,HS1.out.gcells]
 go_wp2_with fail
 have HS2:=h_ (show HSt w g #[fC xt,.string xl,.int .u8 xr,.bool xd,.int .i64 xla,.slice xra xregs.length xrc,.slice xea xevs.length xec,.slice xca xcms.length xcc] #[fC yt,.string yl,.int .u8 yr,.bool yd,.int .i64 yla,.slice yra yregs.length yrc,.slice yea yevs.length yec,.slice yca ycms.length ycc] #[fC zt,.string zl,.int .u8 zr,.bool zd,.int .i64 zla,.slice zra zregs.length zrc,.slice zea zevs.length zec,.slice zca zcms.length zcc] #[fC s1,.string ⟨#[]⟩,.int .u8 0,.bool false,.int .i64 la,.slice none 0 0,.slice none 0 0,.slice none 0 0,.slice none 0 0] ([]) (w1.setCell ⟨g,0,none⟩ (.string s1)) from HS1.out.set hgl 0 (by decide) _)
 clear HS1 fx1 fy1 fz1 fg1 zg1
 refine(HF.out eX _).mono ?_
 rintro e w3 ⟨rfl,hb3⟩
 have HS3:=h_ (HS2.out.later hb3)
 clear hb3 HS2
 go_wp2_with fail
 refine(HS3.out.clash hgl (by simp) c1 ⟨1,0,ak,eX⟩).mono ?_
 rintro e w4 ⟨rfl,k4,hs4⟩
 have HS4:=h_ (show HSt w g #[fC xt,.string xl,.int .u8 xr,.bool xd,.int .i64 xla,.slice xra xregs.length xrc,.slice xea xevs.length xec,.slice xca xcms.length xcc] #[fC yt,.string yl,.int .u8 yr,.bool yd,.int .i64 yla,.slice yra yregs.length yrc,.slice yea yevs.length yec,.slice yca ycms.length ycc] #[fC zt,.string zl,.int .u8 zr,.bool zd,.int .i64 zla,.slice zra zregs.length zrc,.slice zea zevs.length zec,.slice zca zcms.length zcc] #[fC s1,.string ⟨#[]⟩,.int .u8 0,.bool false,.int .i64 la,.slice none 0 0,.slice none 0 0,.slice none 0 0,k4] (clIf c1 ⟨1,0,ak,eX⟩) w4 from hs4)
 clear hs4 HS3
 have fx4:∀ j,w4.cell? ⟨w.heap.size,j,none⟩=_:=fun j=>fm _ _ j _ 27 (0,0) HS4.out.x
 have fy4:∀ j,w4.cell? ⟨w.heap.size+1,j,none⟩=_:=fun j=>fm _ _ j _ 27 (0,0) HS4.out.y
 have fz4:∀ j,w4.cell? ⟨w.heap.size+1+1,j,none⟩=_:=fun j=>fm _ _ j _ 27 (0,0) HS4.out.z
 have fg4:∀ j,w4.cell? ⟨g,j,none⟩=_:=fun j=>fm _ _ j _ 142 (0,0) HS4.out.gcells
 have zg4:∀ j,w4.frozen? ⟨g,j,none⟩=false:=fun j=>by simp [gh,HS4.out.gcells]
 go_wp2_with fail
 refine(HV2.out _).mono ?_
 rintro e w5 ⟨rfl,hb5⟩
 have HS5:=h_ (HS4.out.later hb5)
 clear hb5 HS4 HV2 fx4 fy4 fz4 fg4 zg4
 have fx5:∀ j,w5.cell? ⟨w.heap.size,j,none⟩=_:=fun j=>fm _ _ j _ 27 (0,0) HS5.out.x
 have fy5:∀ j,w5.cell? ⟨w.heap.size+1,j,none⟩=_:=fun j=>fm _ _ j _ 27 (0,0) HS5.out.y
 have fz5:∀ j,w5.cell? ⟨w.heap.size+1+1,j,none⟩=_:=fun j=>fm _ _ j _ 27 (0,0) HS5.out.z
 have fg5:∀ j,w5.cell? ⟨g,j,none⟩=_:=fun j=>fm _ _ j _ 142 (0,0) HS5.out.gcells
 have zg5:∀ j,w5.frozen? ⟨g,j,none⟩=false:=fun j=>by simp [gh,HS5.out.gcells]
 go_wp2_with fail
 have HS6:=h_ (show HSt w g #[fC xt,.string xl,.int .u8 xr,.bool xd,.int .i64 xla,.slice xra xregs.length xrc,.slice xea xevs.length xec,.slice xca xcms.length xcc] #[fC yt,.string yl,.int .u8 yr,.bool yd,.int .i64 yla,.slice yra yregs.length yrc,.slice yea yevs.length yec,.slice yca ycms.length ycc] #[fC zt,.string zl,.int .u8 zr,.bool zd,.int .i64 zla,.slice zra zregs.length zrc,.slice zea zevs.length zec,.slice zca zcms.length zcc] #[fC s1,.string s2,.int .u8 0,.bool false,.int .i64 la,.slice none 0 0,.slice none 0 0,.slice none 0 0,k4] (clIf c1 ⟨1,0,ak,eX⟩) (w5.setCell ⟨g,1,none⟩ (.string s2)) from HS5.out.set hgl 1 (by decide) _)
 clear HS5 fx5 fy5 fz5 fg5 zg5
 refine(HF.out zfw _).mono ?_
 rintro e w7 ⟨rfl,hb7⟩
 have HS7:=h_ (HS6.out.later hb7)
 clear hb7 HS6
 go_wp2_with fail
 refine(HS7.out.clash hgl (by have:=zad c1 ⟨1,0,ak,eX⟩;omega) c2 ⟨1,0,ak,zfw⟩).mono ?_
 rintro e w8 ⟨rfl,k8,hs8⟩
 have HS8:=h_ (show HSt w g #[fC xt,.string xl,.int .u8 xr,.bool xd,.int .i64 xla,.slice xra xregs.length xrc,.slice xea xevs.length xec,.slice xca xcms.length xcc] #[fC yt,.string yl,.int .u8 yr,.bool yd,.int .i64 yla,.slice yra yregs.length yrc,.slice yea yevs.length yec,.slice yca ycms.length ycc] #[fC zt,.string zl,.int .u8 zr,.bool zd,.int .i64 zla,.slice zra zregs.length zrc,.slice zea zevs.length zec,.slice zca zcms.length zcc] #[fC s1,.string s2,.int .u8 0,.bool false,.int .i64 la,.slice none 0 0,.slice none 0 0,.slice none 0 0,k8] (clIf c1 ⟨1,0,ak,eX⟩++clIf c2 ⟨1,0,ak,zfw⟩) w8 from hs8)
 clear hs8 HS7
 have fx8:∀ j,w8.cell? ⟨w.heap.size,j,none⟩=_:=fun j=>fm _ _ j _ 27 (0,0) HS8.out.x
 have fy8:∀ j,w8.cell? ⟨w.heap.size+1,j,none⟩=_:=fun j=>fm _ _ j _ 27 (0,0) HS8.out.y
 have fz8:∀ j,w8.cell? ⟨w.heap.size+1+1,j,none⟩=_:=fun j=>fm _ _ j _ 27 (0,0) HS8.out.z
 have fg8:∀ j,w8.cell? ⟨g,j,none⟩=_:=fun j=>fm _ _ j _ 142 (0,0) HS8.out.gcells
 have zg8:∀ j,w8.frozen? ⟨g,j,none⟩=false:=fun j=>by simp [gh,HS8.out.gcells]
 go_wp2_with fail
 refine(HV3.out _).mono ?_
 rintro e w9 ⟨rfl,hb9⟩
 have HS9:=h_ (HS8.out.later hb9)
 clear hb9 HS8 HV3 fx8 fy8 fz8 fg8 zg8
 have fx9:∀ j,w9.cell? ⟨w.heap.size,j,none⟩=_:=fun j=>fm _ _ j _ 27 (0,0) HS9.out.x
 have fy9:∀ j,w9.cell? ⟨w.heap.size+1,j,none⟩=_:=fun j=>fm _ _ j _ 27 (0,0) HS9.out.y
 have fz9:∀ j,w9.cell? ⟨w.heap.size+1+1,j,none⟩=_:=fun j=>fm _ _ j _ 27 (0,0) HS9.out.z
 have fg9:∀ j,w9.cell? ⟨g,j,none⟩=_:=fun j=>fm _ _ j _ 142 (0,0) HS9.out.gcells
 have zg9:∀ j,w9.frozen? ⟨g,j,none⟩=false:=fun j=>by simp [gh,HS9.out.gcells]
 go_wp2_with fail
 have hn3:g<w9.heap.size:=by have:=HS9.out.lt;omega
 have fgA:∀ o j,(w9.alloc o).cell? ⟨g,j,none⟩=w9.cell? ⟨g,j,none⟩:=fun o j=>ft.cell?_alloc_lt _ _ _ (by simpa using hn3)
 have hne:g≠w9.heap.size:=by omega
 go_region
 go_wp2_with fail
 have HSW:=h_ (show HSt w g #[fC xt,.string xl,.int .u8 xr,.bool xd,.int .i64 xla,.slice xra xregs.length xrc,.slice xea xevs.length xec,.slice xca xcms.length xcc] #[fC yt,.string yl,.int .u8 yr,.bool yd,.int .i64 yla,.slice yra yregs.length yrc,.slice yea yevs.length yec,.slice yca ycms.length ycc] #[fC zt,.string zl,.int .u8 zr,.bool zd,.int .i64 zla,.slice zra zregs.length zrc,.slice zea zevs.length zec,.slice zca zcms.length zcc] #[fC s1,.string s2,.int .u8 s3,.bool s4,.int .i64 la,.slice none 0 0,.slice none 0 0,.slice none 0 0,k8] (clIf c1 ⟨1,0,ak,eX⟩++clIf c2 ⟨1,0,ak,zfw⟩) ((((w9.setCell ⟨g,2,none⟩ (.int .u8 s3)).setCell ⟨g,3,none⟩ (.bool s4)).alloc (.cells #[.int .u8 s3,.bool s4] 193)).drew) from((HS9.out.set hgl 2 (by decide) _).set hgl 3 (by decide) _).later (((fQ _ _).alloc (fY _) _).drew))
 clear HS9 fgA hne hn3 fx9 fy9 fz9 fg9 zg9
 refine(HF.out ziM _).mono ?_
 rintro e wA ⟨rfl,hbA⟩
 have HSA:=h_ (HSW.out.later hbA)
 clear hbA HSW
 go_wp2_with fail
 refine(HSA.out.clash hgl (by simp only [fD];have:=zad c1 ⟨1,0,ak,eX⟩;have:=zad c2 ⟨1,0,ak,zfw⟩;omega) c3 ⟨1,0,ak,ziM⟩).mono ?_
 rintro e wB ⟨rfl,kB,hsB⟩
 have HE:=h_ (show Q (.returned (.tuple #[])) wB from by
  obtain⟨kv,hkv⟩:=hsB.cl
  have hk2:=hkv.atIx
  simp at hk2
  subst hk2
  exact HQ.out s1 s2 s3 s4 c1 c2 c3 rfl rfl rfl _ _ ⟨hkv.cells,rfl,eR hkv.own (by omega),hkv.apart⟩ hsB.kept)
 clear hsB HSA
 go_wp2_with fail
 go_end0
 exact HE.out
end Go.Proofs.YtnlnmbcaongehaaGreatDoor
namespace Go.Proofs.YtnlnmbcaongehaaGreatDoor
open Go.RowKit
theorem zf7 (xs:List Ev)(z:Int):aI xs z=(b8 (xs.map Ev.c) z).isSome:=by
 rw [zaY,fV]
 rfl
theorem zf8 (xs:List Cm)(z:Int):aJ xs z=(aN xs z).isSome:=rfl
theorem zjY (f g:Doc)(z:Int):zbA f.evs g.evs f.cms g.cms z=zfl f.c g.c z:=by
 unfold zbA zfl
 rw [zf7,zf7,zf8,zf8]
 rfl
theorem zke (b a:Doc)(x:Ev):zaM b a x=zaz b.c a.c x.c:=by
 unfold zaM zaz
 rw [zf7,zjY,show b8 a.c.evs x.c.id=(a.evs.find? fun y=>y.id==x.id).map Ev.c from zaY _ _]
 cases a.evs.find? (fun y=>y.id==x.id) with
 | none=>simp [Doc.c,Ev.c]
 | some y =>
   simp only [Option.map_some]
   rw [ziT]
   simp [Doc.c,Ev.c,Bool.and_assoc]
theorem zkf (b a:Doc)(x:Cm):zaN b a x=zaA b.c a.c x:=by
 unfold zaN zaA
 rw [zf8,zjY]
 show _=(!(aN b.cms x.id).isSome&&zfl b.c a.c x.id&&!(match aN a.cms x.id with|none=>false|some y=>cmEq x y))
 rw [Bool.and_assoc]
 rfl
theorem zk3 (b a d:Doc):gd (bo (bX b a d d.evs.length d.cms.length))=zdf b.c a.c d.c:=by
 unfold bX zdf
 rw [fM,fM]
 have h1:(d.c.evs.filter (zaz b.c a.c)).map EvC.id=(d.evs.filter (zaM b a)).map Ev.id:=by
  show((d.evs.map Ev.c).filter _).map _=_
  rw [List.filter_map,List.map_map]
  have:(zaz b.c a.c ∘ Ev.c)=zaM b a:=by
   funext x
   exact(zke b a x).symm
  rw [this]
  rfl
 have h2:d.c.cms.filter (zaA b.c a.c)=d.cms.filter (zaN b a):=by
  have:zaA b.c a.c=zaN b a:=by
   funext x
   exact(zkf b a x).symm
  rw [this]
  rfl
 rw [h1,h2]
theorem zjF {x y z:Hd} {la:Int} {g:Nat} {w w':ft} {e:Ending} (h:zgY x y z la g w e w')(hg:g<w.heap.size) :
 e=.returned (.tuple #[])∧∃ kv,(⟨mgHd x y z la,.slice none 0 0,[],.slice none 0 0,[],.slice none 0 0,[],kv,zcy x y z⟩:Mg).at_ w.heap.size g w'∧Kept (fun b=>b=g) w w'∧∀ b,kv.ownBlock=some b→w.heap.size≤b:=by
 obtain⟨he,kv,hc,hk⟩:=h
 refine⟨he,kv,⟨hc.cells,gj _ _ _ _,gj _ _ _ _,(fun x hx=>by cases hx),gj _ _ _ _,hc.own,hg,(fun x hx=>by cases hx),⟨fun b=>if b=g then 0 else 4,if_pos rfl,(fun b q=>by cases q),(fun b q=>by cases q),(fun b q=>by cases q),fun b q=>?_,(fun x hx=>by cases hx)⟩⟩,hk,fun b q=>(hc.own.lt b q).1⟩
 exact if_neg (fun e:b=g=>hc.apart (e▸q))
theorem zbU (last:Int)(f:Int→Option Nat)(evs:List Ev):∀ (xs:List Cm)(p:Option Cm),bF last f evs p xs=0→∀ c∈xs,aW last f evs c=0
 | [],_,_=>fun c hc=>by simp at hc
 | x::l,p,h=>by
   rw [bF] at h
   split at h
   · rename_i hne;rw [h] at hne;cases hne
   · rename_i hne
     have h0:dw last f evs p x=0:=by simpa using hne
     intro c hc
     rcases List.mem_cons.1 hc with rfl|hc
     · unfold dw at h0
       split at h0
       · cases h0
       · split at h0
         · cases h0
         · split at h0
           · cases h0
           · split at h0
             · exact h0
             · rename_i hn
               simpa using hn
     · exact zbU last f evs l _ h c hc
theorem za8 {t:DocC} (h:cErr t=0):t.hd.last≤1099511627776:=by
 have hp:=(za2 (d:=t.rep) h).1
 unfold ef at hp
 split at hp
 · cases hp
 · split at hp
   · cases hp
   · split at hp
     · cases hp
     · split at hp
       · rename_i h1
         rw [hp] at h1
         cases h1
       · split at hp
         · cases hp
         · rename_i h1
           have:t.rep.last=t.hd.last:=rfl
           omega
theorem zbS:gd (bo ([]++[]))=[]:=by
 simp [bo,gd]
 rfl
theorem zjr {base a b:DocC} (he:∀ x∈b.evs,zaz base a x=false)(hc:∀ x∈b.cms,zaA base a x=false):zdf base a b=[]:=by
 have h1:b.evs.filter (zaz base a)=[]:=fH.2 fun x hx=>by simp [he x hx]
 have h2:b.cms.filter (zaA base a)=[]:=fH.2 fun x hx=>by simp [hc x hx]
 unfold zdf
 rw [h1,h2]
 exact zbS
theorem zkC (b:DocC):zih (fun z=>z) b=b:=by
 obtain⟨hd,rG,evs,cms⟩:=b
 simp [zih]
theorem fh {base a b:DocC} (h:zdf base a b=[]):zf1 base a b=zht base a b (cO a b)∧zfg base a b=cO a b:=by
 have h1:zkh base a b=fun z=>z:=by
  funext z
  unfold zkh
  rw [h]
  rfl
 have h2:zfg base a b=cO a b:=by
  unfold zfg
  rw [h]
  simp
 refine⟨?_,h2⟩
 unfold zf1
 rw [h1,h2,zkC]
theorem eb {base a b:DocC} (h:aO base a b=0):cErr base=0∧cErr a=0∧cErr b=0∧base.hd.last≤a.hd.last∧base.hd.last≤b.hd.last:=by
 unfold aO at h
 split at h
 · contradiction
 · split at h
   · contradiction
   · split at h
     · contradiction
     · split at h
       · cases h
       · refine⟨?_,?_,?_,by omega,by omega⟩<;>(refine Decidable.byContradiction fun hh=>?_;contradiction)
theorem zk0 (w:ft):(zeroValue 2).run Tryz.prog w=.ok (.int .i64 0) w:=by kernel_rfl
theorem VMap.drewN {w:ft} {b n:Nat} {f:Int→Option fw} (h:VMap w b n f)(q:Nat):VMap (w.drewN q) b n f:=h.kept rfl
theorem zaE (g j gb mb n:Nat)(z:Int)(w:ft)(hz:i64 z)(hc:w.cell? ⟨g,j,none⟩=some (.int .i64 z))(hb:w.cell? ⟨gb,0,none⟩=some (.map (some mb)))(hM:VMap w mb n (fun _=>none)) :
 fB Tryz.prog 126 #[.pointer (some ⟨g,j,none⟩),.pointer (some ⟨gb,0,none⟩)] w fun e w'=>e=.returned (.tuple #[])∧fP w.heap.size w w':=by
 have hl:∀ q,(Instr.lookup 137 (.map (some mb)) (.int .i64 z) true).run Tryz.prog (w.drewN q)=.ok (.tuple #[.int .i64 0,.bool false]) (w.drewN q):=fun q=>by
  have:=(hM.drewN q).look Tryz.underlying137 (zk0 _) hz
  simpa using this
 have hl1:(Instr.lookup 137 (.map (some mb)) (.int .i64 z) true).run Tryz.prog w.drew=.ok (.tuple #[.int .i64 0,.bool false]) w.drew:=hl 1
 clear hM
 go_enter Tryz.func126,Tryz.ntmps126
 go_wp2_with fail
 go_quiet (fail)
 go_wp2_with fail
 go_end0
 exact⟨rfl,below_drewN (fQ _ _) _⟩
theorem za3 {d d':Doc} (h:d'.c=d.c)(hf:d.fits):d'.fits:=by
 have:=Doc.fits.c (n:=4000000) hf hf.2.2.2.2.2.2.1 hf.2.2.2.2.2.2.2.2.1 hf.2.2.2.2.2.2.2.2.2.2
 rw [←h] at this
 exact this.doc (fY _)
theorem zkB (w:ft)(ds ms zd:Array fw):(((w.alloc (.cells ds 27)).alloc (.cells ms 137)).alloc (.cells zd 27)).heap[w.heap.size]? =some (.cells ds 27 (0,0))∧(((w.alloc (.cells ds 27)).alloc (.cells ms 137)).alloc (.cells zd 27)).heap[w.heap.size+1]? =some (.cells ms 137 (0,0))∧(((w.alloc (.cells ds 27)).alloc (.cells ms 137)).alloc (.cells zd 27)).heap[w.heap.size+1+1]? =some (.cells zd 27 (0,0)):=by
 refine⟨?_,?_,?_⟩
 · rw [fR _ _ _ (by simp;try omega),fR _ _ _ (by simp)]
   exact fu w _
 · rw [fR _ _ _ (by simp)]
   have:=fu (w.alloc (.cells ds 27)) (.cells ms 137)
   rwa [gl] at this
 · have:=fu ((w.alloc (.cells ds 27)).alloc (.cells ms 137)) (.cells zd 27)
   rwa [gl,gl] at this
theorem ze9 (d:Doc)(mb n:Nat)(w:ft)(hd:d.lies w)(hf:d.fits)(hM:VMap w mb n (fun _=>none)) :
 fB Tryz.prog 76 #[.agg d.enc.toArray,.map (some mb)] w (e9 d.c w):=by
 have HCL:=h_ (fun(w1:ft) (h:fP w.heap.size w w1)=>zds d w1 (Doc.later hd h) hf)
 have HFE0:=h_ (fun(d':Doc) (h:d'.c=d.c)=>za3 h hf)
 have HM:=h_ hM
 have HQ:=h_ (fun(d':Doc) (w':ft) (h1:d'.c=d.c) (h2:d'.lies w') (h3:∀ b,d'.uses b→w.heap.size≤b) (h4:fP w.heap.size w w')=>(show e9 d.c w (.returned (.agg d'.enc.toArray)) w' from⟨d',rfl,h1,h2,h3,h4⟩))
 generalize e9 d.c w=Q at *
 generalize hdc:d.c=dc at *
 clear hd hf hM hdc
 obtain⟨title,lang,rate,drop,last,ra,rc,rG,ea,ec,evs,ca,cc,cms⟩:=d
 simp only [Doc.enc] at *
 have HBX:=h_ (zkB w #[fC title,.string lang,.int .u8 rate,.bool drop,.int .i64 last,.slice ra rG.length rc,.slice ea evs.length ec,.slice ca cms.length cc] #[.map (some mb)] #[fC ⟨#[]⟩,.string ⟨#[]⟩,.int .u8 0,.bool false,.int .i64 0,.slice none 0 0,.slice none 0 0,.slice none 0 0])
 have hb3:∀ o1 o2 o3:Obj,fP w.heap.size w (((w.alloc o1).alloc o2).alloc o3):=fun o1 o2 o3=>(((fQ _ _).alloc (fY _) _).alloc (by simp) _).alloc (by simp;try omega) _
 have hsz3:∀ o1 o2 o3:Obj,(((w.alloc o1).alloc o2).alloc o3).heap.size=w.heap.size+3:=fun o1 o2 o3=>by simp
 go_enter Tryz.func76,Tryz.ntmps76
 go_wp2_with fail
 refine(HCL.out _ (hb3 _ _ _)).mono ?_
 rintro e w4 ⟨d',rfl,hc',hl',hu',hb4⟩
 rw [hsz3] at hb4 hu'
 have hfd:=HFE0.out d' hc'
 have hbw4:fP w.heap.size w w4:=(hb3 _ _ _).trans (hb4.mono (by omega))
 have h0:=(hb4.block w.heap.size (by omega)).trans HBX.out.1
 have h1:=(hb4.block (w.heap.size+1) (by omega)).trans HBX.out.2.1
 have h2:=(hb4.block (w.heap.size+1+1) (by omega)).trans HBX.out.2.2
 have hs4:w.heap.size+3≤w4.heap.size:=by have:=hb4.size;rw [hsz3] at this;exact this
 have HM4:=h_ (HM.out.below hbw4 HM.out.lt)
 have HML:=h_ HM.out.lt
 have HL4:=h_ hl'
 have HU4:=h_ hu'
 have HC4:=h_ hc'
 have HFE:=h_ hfd.2.2.2.2.2.2.2.1
 have HFC:=h_ hfd.2.2.2.2.2.2.2.2.2.1
 have hle:d'.evs.length≤4000000:=hfd.2.2.2.2.2.2.2.2.1
 have hlc:d'.cms.length≤4000000:=hfd.2.2.2.2.2.2.2.2.2.2
 have HBW4:=h_ hbw4
 clear hb4 hl' hu' hc' hfd hb3 hsz3 HCL HFE0 HM HBX hbw4
 obtain⟨t',l',r',dr',la',ra',rc',regs',ea',ec',evs',ca',cc',cms'⟩:=d'
 simp only at *
 have c0:∀ j,w4.cell? ⟨w.heap.size,j,none⟩=_:=fun j=>fm _ _ j _ 27 (0,0) h0
 have z0:∀ j,w4.frozen? ⟨w.heap.size,j,none⟩=false:=fun j=>by simp [gh,h0]
 simp only [Doc.enc]
 have HS5:=h_ (fun(w5:ft) (hk:Kept (fun b=>b=w.heap.size) w4 w5) (h5:w5.heap[w.heap.size]? =some (.cells #[fC t',.string l',.int .u8 r',.bool dr',.int .i64 la',.slice ra' regs'.length rc',.slice ea' evs'.length ec',.slice ca' cms'.length cc'] 27 (0,0)))=>(show(∀ w1,fP w5.heap.size w5 w1→∀ j,w1.cell? ⟨w.heap.size,j,none⟩=(#[fC t',.string l',.int .u8 r',.bool dr',.int .i64 la',.slice ra' regs'.length rc',.slice ea' evs'.length ec',.slice ca' cms'.length cc'])[j]?)∧(∀ w1,fP w5.heap.size w5 w1→w1.cell? ⟨w.heap.size+1,0,none⟩=some (.map (some mb)))∧w5.heap[w.heap.size+1+1]? =some (.cells #[fC ⟨#[]⟩,.string ⟨#[]⟩,.int .u8 0,.bool false,.int .i64 0,.slice none 0 0,.slice none 0 0,.slice none 0 0] 27 (0,0))∧(∀ w1,fP w5.heap.size w5 w1→VMap w1 mb n (fun _=>none))∧Doc.lies w5 ⟨t',l',r',dr',la',ra',rc',regs',ea',ec',evs',ca',cc',cms'⟩∧fP w.heap.size w w5∧w.heap.size+3≤w5.heap.size from by
  have hs5:=hk.size
  have hml:=HML.out
  have hb5:fP w.heap.size w w5:=HBW4.out.trans (hk.below (by omega) (fun k hk e=>by omega))
  refine⟨fun w1 h j=>fm _ _ j _ 27 (0,0) ((h.block _ (by omega)).trans h5),fun w1 h=>fm _ _ 0 _ 137 (0,0) ((h.block _ (by omega)).trans ((hk.block _ (by omega) (by omega)).trans h1)),(hk.block _ (by omega) (by omega)).trans h2,fun w1 h=>(HM4.out.kept (hk.block mb HM4.out.lt (by omega))).below h (by omega),?_,hb5,by omega⟩
  exact Doc.frame HL4.out (by omega) fun b hu=>hk.block b (Doc.uses_lt HL4.out hu) (by have:=HU4.out b hu;omega)))
 go_wp2_with fail
 generalize hw5:((((((((w4.setCell ⟨w.heap.size,0,none⟩ (fC t')).setCell ⟨w.heap.size,1,none⟩ (.string l')).setCell ⟨w.heap.size,2,none⟩ (.int .u8 r')).setCell ⟨w.heap.size,3,none⟩ (.bool dr')).setCell ⟨w.heap.size,4,none⟩ (.int .i64 la')).setCell ⟨w.heap.size,5,none⟩ (.slice ra' regs'.length rc')).setCell ⟨w.heap.size,6,none⟩ (.slice ea' evs'.length ec')).setCell ⟨w.heap.size,7,none⟩ (.slice ca' cms'.length cc'))=w5
 have hK5:Kept (fun b=>b=w.heap.size) w4 w5:=by
  rw [←hw5]
  refine Kept.setCell (Kept.setCell (Kept.setCell (Kept.setCell (Kept.setCell (Kept.setCell (Kept.setCell (Kept.setCell (Kept.refl _ _) ?_ _) ?_ _) ?_ _) ?_ _) ?_ _) ?_ _) ?_ _) ?_ _
  all_goals exact .inr rfl
 obtain⟨arr,h5,harr⟩:∃ arr,w5.heap[w.heap.size]? =some (.cells arr 27 (0,0))∧arr=#[fC t',.string l',.int .u8 r',.bool dr',.int .i64 la',.slice ra' regs'.length rc',.slice ea' evs'.length ec',.slice ca' cms'.length cc']:=by
  rw [←hw5]
  refine⟨_,(fp _ _ _ _ _ _ (fp _ _ _ _ _ _ (fp _ _ _ _ _ _ (fp _ _ _ _ _ _ (fp _ _ _ _ _ _ (fp _ _ _ _ _ _ (fp _ _ _ _ _ _ (fp _ _ _ _ _ _ h0)))))))),?_⟩
  simp only [List.setIfInBounds_toArray,List.set_cons_zero,List.set_cons_succ]
 subst harr
 obtain⟨kd,kb,hn5,hmp,hli,hbw5,hs5⟩:=HS5.out w5 hK5 h5
 have HMP:=h_ hmp
 have HLI:=h_ hli
 have HBW5:=h_ hbw5
 have HN5:=h_ hn5
 have hb05:fP w5.heap.size w5 w5:=fQ _ _
 clear hw5 hK5 h5 hmp hli hbw5 hn5 HS5 c0 z0 h0 h1 h2 hs4 HM4 HML HL4 HBW4
 go_wp2_with fail
 go_loopw [14] (fun i wr=>∃ k:Nat,k≤evs'.length∧i=.int .i64 k∧fP w5.heap.size w5 wr) (fun i _=>evs'.length-(intOf i).toNat)
 case atStart=>exact⟨0,by omega,rfl,hb05⟩
 case round =>
  obtain⟨k,hk,rfl,hb⟩:=hrel
  by_cases hlt:k<evs'.length
  · obtain⟨bk,off,x,rfl,hbl,hx,hc,hok⟩:=(HLI.out.2.1.later hb).at_ hlt
    have hft:=HFE.out x (fJ hx)
    have hws:=hb.size
    have HWS:=h_ hws
    have HB0:=h_ hb
    have HC0:=h_ (fun(w1:ft) (h:fP w5.heap.size w5 w1) (h2:fP wr.heap.size wr w1)=>zaE bk (off+k*7) (w.heap.size+1) mb n _ w1 hft.1 ((h2.cell (p:=⟨bk,off+k*7,none⟩) hbl).trans (hc 0 _ rfl)) (kb w1 h) (HMP.out w1 h))
    have hb0r:fP wr.heap.size wr wr:=fQ _ _
    clear hx hok hft hc
    obtain⟨x0,x1,x2,x3,x4,x5,xa,xc,xr⟩:=x
    go_wp2_with fail
    refine(HC0.out _ hb hb0r).mono ?_
    rintro e w7 ⟨rfl,hcc0⟩
    have hcq0:fP wr.heap.size wr w7:=hcc0
    have hbq0:fP w5.heap.size w5 w7:=HB0.out.trans (hcq0.mono HWS.out)
    clear hcc0
    go_wp2_with fail
    go_roundw
    case rel=>exact⟨k+1,by omega,by go_num,hbq0⟩
    case measure=>simp [intOf];omega
  · obtain rfl:k=evs'.length:=by omega
    have HB1:=h_ hb
    go_wp2_with fail
    go_loopw [28] (fun i wr=>∃ k:Nat,k≤cms'.length∧i=.int .i64 k∧fP w5.heap.size w5 wr) (fun i _=>cms'.length-(intOf i).toNat)
    case atStart=>exact⟨0,by omega,rfl,HB1.out⟩
    case round =>
     clear hb hlt hk
     obtain⟨k,hk,rfl,hb⟩:=hrel
     by_cases hlt:k<cms'.length
     · obtain⟨bk,off,x,rfl,hbl,hx,hc,hok⟩:=(HLI.out.2.2.later hb).at_ hlt
       have hft:=HFC.out x (fJ hx)
       have hws:=hb.size
       have HWS:=h_ hws
       have HB0:=h_ hb
       have HC0:=h_ (fun(w1:ft) (h:fP w5.heap.size w5 w1) (h2:fP wr.heap.size wr w1)=>zaE bk (off+k*8) (w.heap.size+1) mb n _ w1 hft.1 ((h2.cell (p:=⟨bk,off+k*8,none⟩) hbl).trans (hc 0 _ rfl)) (kb w1 h) (HMP.out w1 h))
       have HC1:=h_ (fun(w1:ft) (h:fP w5.heap.size w5 w1) (h2:fP wr.heap.size wr w1)=>zaE bk (off+k*8+1) (w.heap.size+1) mb n _ w1 hft.2.1 ((h2.cell (p:=⟨bk,off+k*8+1,none⟩) hbl).trans (hc 1 _ rfl)) (kb w1 h) (HMP.out w1 h))
       have hb0r:fP wr.heap.size wr wr:=fQ _ _
       clear hx hok hft hc
       obtain⟨x0,x1,x2,x3,x4,x5,x6,x7⟩:=x
       go_wp2_with fail
       refine(HC0.out _ hb hb0r).mono ?_
       rintro e w7 ⟨rfl,hcc0⟩
       have hcq0:fP wr.heap.size wr w7:=hcc0
       have hbq0:fP w5.heap.size w5 w7:=HB0.out.trans (hcq0.mono HWS.out)
       clear hcc0
       go_wp2_with fail
       refine(HC1.out _ hbq0 hcq0).mono ?_
       rintro e w8 ⟨rfl,hcc1⟩
       have hcq1:fP wr.heap.size wr w8:=hcq0.trans (hcc1.mono hcq0.size)
       have hbq1:fP w5.heap.size w5 w8:=HB0.out.trans (hcq1.mono HWS.out)
       clear hcc1
       go_wp2_with fail
       go_roundw
       case rel=>exact⟨k+1,by omega,by go_num,hbq1⟩
       case measure=>simp [intOf];omega
     · obtain rfl:k=cms'.length:=by omega
       have hn6:=(hb.block (w.heap.size+1+1) (by omega)).trans HN5.out
       have cn:∀ j,wr.cell? ⟨w.heap.size+1+1,j,none⟩=_:=fun j=>fm _ _ j _ 27 (0,0) hn6
       have zn:∀ j,wr.frozen? ⟨w.heap.size+1+1,j,none⟩=false:=fun j=>by simp [gh,hn6]
       have HBR:=h_ hb
       have hsr:=hb.size
       clear hn6
       go_wp2_with fail
       refine bodyPost_ret (v:=.agg #[fC t',.string l',.int .u8 r',.bool dr',.int .i64 la',.slice ra' regs'.length rc',.slice ea' evs'.length ec',.slice ca' cms'.length cc']) (by simp [results,Tryz.results76,go_sem,cn]) rfl ?_
       have hfin:Kept (fun b=>b=w.heap.size+1+1) wr (((((((( wr.setCell ⟨w.heap.size+1+1,0,none⟩ (fC t')).setCell ⟨w.heap.size+1+1,1,none⟩ (.string l')).setCell ⟨w.heap.size+1+1,2,none⟩ (.int .u8 r')).setCell ⟨w.heap.size+1+1,3,none⟩ (.bool dr')).setCell ⟨w.heap.size+1+1,4,none⟩ (.int .i64 la')).setCell ⟨w.heap.size+1+1,5,none⟩ (.slice ra' regs'.length rc')).setCell ⟨w.heap.size+1+1,6,none⟩ (.slice ea' evs'.length ec')).setCell ⟨w.heap.size+1+1,7,none⟩ (.slice ca' cms'.length cc')):=by
        refine Kept.setCell (Kept.setCell (Kept.setCell (Kept.setCell (Kept.setCell (Kept.setCell (Kept.setCell (Kept.setCell (Kept.refl _ _) ?_ _) ?_ _) ?_ _) ?_ _) ?_ _) ?_ _) ?_ _) ?_ _
        all_goals exact .inr rfl
       refine HQ.out ⟨t',l',r',dr',la',ra',rc',regs',ea',ec',evs',ca',cc',cms'⟩ _ HC4.out ?_ (fun b hu=>by have:=HU4.out b hu;omega) ((HBW5.out.trans (HBR.out.mono HBW5.out.size)).trans (hfin.below (by omega) (fun k hk e=>by omega)))
       exact Doc.frame (Doc.later HLI.out HBR.out) hfin.size fun b hu=>hfin.block b (Doc.uses_lt (Doc.later HLI.out HBR.out) hu) (by have:=HU4.out b hu;omega)
def zeN (m:Mg)(B g:Nat)(cls:List Cl)(w:ft)(e:Ending)(w':ft):Prop:=e=.returned (.tuple #[])∧∃ kv',({ m with kv:=kv',cls:=cls }:Mg).at_ B g w'∧Mg.step g m { m with kv:=kv',cls:=cls } w w'
theorem zep (B g gm gi:Nat)(m:Mg)(is:Bool)(f:ByteArray)(id:Int)(w:ft)(h:m.at_ B g w)(hB:B≤w.heap.size)(hl:m.cls.length≤1000000)
 (hm:w.cell? ⟨gm,0,none⟩=some (.pointer (some ⟨g,0,none⟩))) (hi:w.cell? ⟨gi,0,none⟩=some (.int .i64 id)) :
 fB Tryz.prog 141 #[.bool is,.string f,.pointer (some ⟨gm,0,none⟩),.pointer (some ⟨gi,0,none⟩)] w (zeN m B g (m.cls++clIf is ⟨4,id,ak,f⟩) w):=by
 have HCL:=h_ (show fB Tryz.prog 130 #[.pointer (some ⟨g,0,none⟩),.bool is,.agg #[.int .u8 4,.int .i64 id,.string ⟨#[]⟩,.string f]] w (zbX B g m.arr m.kv (m.cls++clIf is ⟨4,id,ak,f⟩) w) from ek B g m.arr m.kv m.cls is ⟨4,id,ak,f⟩ w h.row8 hB hl)
 have HH:=h_ h
 have HQ:=h_ (fun(w':ft) (q:∃ kv',({ m with kv:=kv',cls:=m.cls++clIf is ⟨4,id,ak,f⟩ }:Mg).at_ B g w'∧Mg.step g m { m with kv:=kv',cls:=m.cls++clIf is ⟨4,id,ak,f⟩ } w w')=>(show zeN m B g (m.cls++clIf is ⟨4,id,ak,f⟩) w (.returned (.tuple #[])) w' from⟨rfl,q⟩))
 generalize zeN m B g (m.cls++clIf is ⟨4,id,ak,f⟩) w=Q at *
 clear h
 go_enter Tryz.func141,Tryz.ntmps141
 go_wp2_with fail
 refine HCL.out.mono ?_
 rintro e w1 ⟨rfl,hp⟩
 have HE:=h_ (HQ.out w1 (HH.out.clash hp))
 clear hp
 go_wp2_with fail
 go_end0
 exact HE.out
theorem zkH (xs ts:List EvC)(ys:List Cm)(z:Int):(bH xs ts ys z).isSome=(aN ys z).isSome:=by
 unfold bH aN cmAt
 rw [fV,fV]
theorem zjN {a b c:DocC} {txs:List EvC} {l:List Int} (h1:l.Pairwise (·<·))(F:Nat→Int→Option fw)(hF:F 0=bH a.evs txs a.cms∧F 1=bH b.evs txs b.cms∧F 2=bH c.evs txs c.cms)(h2:∀ z,z∈l↔∃ j,j<3∧(F j z).isSome=true):l=ck a.cms b.cms c.cms:=by
 obtain⟨q1,q2⟩:=zfE a.cms b.cms c.cms
 have key:∀ (xs:List EvC) (ys:List Cm) (k:Int),(bH xs txs ys k).isSome=true↔∃ e∈ys,e.id=k:=fun xs ys k=>by
  rw [zkH]
  unfold aN
  rw [fL]
  constructor
  · rintro ⟨e,he,hk⟩
    exact⟨e,he,by simpa [cmAt] using hk⟩
  · rintro ⟨e,he,hk⟩
    exact⟨e,he,by simpa [cmAt] using hk⟩
 refine zcY (fun a b:Int=>a<b) (fun a h=>by omega) (fun a b h h'=>by omega) _ _ h1 q1 fun k=>?_
 rw [h2,q2,←key a.evs,←key b.evs,←key c.evs,←hF.1,←hF.2.1,←hF.2.2]
 constructor
 · rintro ⟨j,hj,h⟩
   rcases(show j=0∨j=1∨j=2 by omega) with rfl|rfl|rfl
   · exact .inl h
   · exact .inr (.inl h)
   · exact .inr (.inr h)
 · rintro (h|h|h)
   · exact⟨0,by omega,h⟩
   · exact⟨1,by omega,h⟩
   · exact⟨2,by omega,h⟩
theorem zfD (a b c:List Cm):(ck a b c).length≤a.length+b.length+c.length:=by
 refine fZ (f_ _) ?_
 unfold bo
 rw [fI]
 simp
 omega
theorem zi2 {a b c:List Cm} (ha:∀ e∈a,e.fits)(hb:∀ e∈b,e.fits)(hc:∀ e∈c,e.fits) {id:Int} (h:id∈ck a b c):i64 id:=by
 rcases((zfE a b c).2 id).1 h with⟨e,he,rfl⟩|⟨e,he,rfl⟩|⟨e,he,rfl⟩
 · exact(ha e he).1
 · exact(hb e he).1
 · exact(hc e he).1
theorem zfj (x y z:Cm):(dm x y z).length≤4:=by
 unfold dm
 simp only [fD]
 have h1:=eh (zfk x y z).2 aT
 have h2:=eh (zcb x y z).2 bZ
 have h3:=eh (zgD x y z).2 zdl
 have h4:=eh (zgF x y z).2 zhI
 omega
theorem ziy {ox oy oz x y z:Option Cm} {p:Cm × List ByteArray} (h:eI ox oy oz x y z=some p):p.2.length≤4:=by
 cases x<;>cases y<;>cases z<;>simp only [eI,fT,reduceCtorEq] at h
 all_goals first
  | (rw [←h];exact zfj _ _ _)
  | (rw [←h];simp;done)
  | (split at h
     · rw [←fS h];simp
     · rw [←fS h];simp)
  | (split at h
     · cases h
     · rw [←fS h];simp)
theorem zcB (txs:List EvC)(a b c:DocC):∀ ids:List Int,(eU txs a b c ids).length≤ids.length∧(dz txs a b c ids).length≤4*ids.length
 | []=>by simp [eU,dz]
 | id::l=>by
   have ih:=zcB txs a b c l
   have h1:((mgCm txs a b c id).map (·.1)).toList.length≤1:=by cases (mgCm txs a b c id)<;>simp
   have h2:((((mgCm txs a b c id).map (·.2)).getD []).map fun f=>(⟨4,id,ak,f⟩:Cl)).length≤4:=by
    cases hq:mgCm txs a b c id with
    | none=>simp
    | some p =>
      have:=ziy hq
      simpa using this
   unfold eU dz at *
   rw [fE,fE,fD,fD,fN]
   omega
def cX (id:Int)(fs:List ByteArray):List Cl:=fs.map fun f=>⟨4,id,ak,f⟩
theorem zdR (txs:List EvC)(a b c:DocC)(ids:List Int)(k:Nat)(id:Int)(h:ids[k]? =some id):eU txs a b c (ids.take (k+1))=eU txs a b c (ids.take k)++((mgCm txs a b c id).map (·.1)).toList:=by
 unfold eU
 rw [fG,h,fF]
 simp
theorem zcC (txs:List EvC)(a b c:DocC)(ids:List Int)(k:Nat)(id:Int)(h:ids[k]? =some id):dz txs a b c (ids.take (k+1))=dz txs a b c (ids.take k)++cX id (((mgCm txs a b c id).map (·.2)).getD []):=by
 unfold dz cX
 rw [fG,h,fF]
 simp
theorem bI:i64 0:=⟨by decide,by decide⟩
theorem zfu {c:Cm} (h:c.tame)(hl:c.lost=false) {a b:List Nat} (ha:a.length≤20000000000000)(hb:b.length≤20000000000000):(eW c a b).fits:=by
 obtain⟨h1,h2⟩:=h
 obtain⟨⟨f1,f2⟩,g1,g2⟩:=h2 hl
 have hp:=zaf a b
 have hs:=zc0 a b (alike a b)
 obtain⟨c1,c2,c3,c4,c5,c6⟩:=h1
 rw [zbq]
 simp only
 split
 · exact⟨c1,c2,bI,bI,c5,c6⟩
 · refine⟨c1,c2,?_,?_,c5,c6⟩
   · show i64 (dB a.length b.length (alike a b) (du a b (alike a b)) c.frm c.til).1
     unfold dB i64
     simp only
     split
     · omega
     · split<;>omega
   · show i64 (dB a.length b.length (alike a b) (du a b (alike a b)) c.frm c.til).2
     unfold dB i64
     simp only
     split
     · omega
     · split<;>omega
theorem zeZ {s:ByteArray} (h:s.size≤20000000000000):(runes s).length≤20000000000000:=fZ (dP s s.size 0) h
theorem zeR:(dC none).size≤20000000000000:=by decide
theorem zbQ {l:List EvC} (h:∀ e∈l,e.fits)(z:Int):(dC (b8 l z)).size≤20000000000000:=by
 cases hf:b8 l z with
 | none=>exact zeR
 | some x =>
   have hx:=h x (List.mem_of_find?_eq_some hf)
   have:=zaC (x:=x.rep) ((Ev.fits_c _).1 (by rw [EvC.rep_c];exact hx))
   rwa [EvC.rep_c] at this
theorem zfZ {fr txs:List EvC} (hf:∀ e∈fr,e.fits)(ht:∀ e∈txs,e.fits) {c:Cm} (h:c.tame):(dT fr txs c).fits:=by
 unfold dT
 split
 · exact h.1
 · rename_i hl
   have hl':c.lost=false:=by simpa using hl
   split
   · obtain⟨c1,c2,c3,c4,c5,c6⟩:=h.1
     exact⟨c1,c2,bI,bI,c5,c6⟩
   · rename_i x hx
     refine zfu h hl' (zeZ (zbQ hf _)) (zeZ ?_)
     have:=zbQ ht c.ev
     rwa [hx] at this
theorem zhn (x y z:Cm)(P:Cm→Prop)(hx:P x)(hy:P y)(hz:P z):P (zfk x y z).1:=cN zgj x y z P hx hy hz
theorem zes {x y z:Cm} (hx:x.fits)(hy:y.fits)(hz:z.fits):(zaQ x y z).fits:=by
 obtain⟨x1,x2,x3,x4,x5,x6⟩:=hx
 obtain⟨y1,y2,y3,y4,y5,y6⟩:=hy
 obtain⟨z1,z2,z3,z4,z5,z6⟩:=hz
 have h1:=zhn x y z (fun c=>i64 c.ev∧i64 c.frm∧i64 c.til) ⟨x2,x3,x4⟩ ⟨y2,y3,y4⟩ ⟨z2,z3,z4⟩
 have h2:=cN b_ x.author y.author z.author (fun p=>p.size≤4000000) x5 y5 z5
 have h3:=cN b_ x.text y.text z.text (fun p=>p.size≤4000000) x6 y6 z6
 exact⟨x1,h1.1,h1.2.1,h1.2.2,h2,h3⟩
end Go.Proofs.YtnlnmbcaongehaaGreatDoor
