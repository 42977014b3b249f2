/- The contract of merge.finderOf: two maps that hold a document's events and comments by their IDs. The contract of merge.adds: whether another document has an event or a comment with an ID that is not there. -/
import Derived.Test.YtnlnmbcaongehaaGreatDoorN11
set_option linter.unusedVariables false
set_option linter.unusedSimpArgs false
set_option maxRecDepth 100000
set_option maxHeartbeats 12800000
open Go.Lib renaming hid→h_
open Go renaming heap_setCell_same→Su,World→Sv,cell_of_row→Sw,Value→Sx,wpAnyH_done→Sy,heap_alloc_last→Sz
open Go.Proofs.Tryz renaming prog→SA,underlying146→SB,underlying145→SC
open List renaming mem_of_find?_eq_some→SD,find?_append→SE,setIfInBounds_toArray→SF,mem_of_getElem?→SG,set_cons_zero→SH,set_cons_succ→SI,take_length→SJ
open Go.RowKit renaming Below→SK
open Go.RowKit.Below renaming heap_alloc→SL,refl→SM
open Nat renaming le_refl→SN,le_trans→SO,lt_of_lt_of_le→SQ,add_zero→SR
open Option.some renaming inj→SS
open Go.Value renaming int→SU,string→SV
open Go.World renaming cell?_alloc_lt→SW,frozen?→SX
open Option renaming isSome_some→SY,isSome_none→SZ,getD_some→S5,getD_none→S6
open Go.Instr renaming lookup→S7
namespace Go.Proofs.YtnlnmbcaongehaaGreatDoor
open Go.RowKit
def bA (xs:List Ev)(z:Int):Option Sx:=(xs.find? fun x=>x.id==z).map fun x=>.agg x.enc.toArray
def bp (xs:List Cm)(z:Int):Option Sx:=(xs.find? fun x=>x.id==z).map fun x=>.agg x.enc.toArray
theorem EZ (w:Sv):(zeroValue 50).run SA w=.ok (.agg #[.int .i64 0,.int .i64 0,.int .i64 0,.string ⟨#[]⟩,.int .u8 0,.string ⟨#[]⟩,.slice none 0 0]) w:=by kernel_rfl
theorem CB (w:Sv):(zeroValue 52).run SA w=.ok (.agg #[.int .i64 0,.int .i64 0,.int .i64 0,.int .i64 0,.string ⟨#[]⟩,.string ⟨#[]⟩,.bool false,.bool false]) w:=by kernel_rfl
theorem BY (xs:List Ev)(z:Int):bA xs z=none∨∃ y,bA xs z=some (.agg (Ev.enc y).toArray):=by
 unfold bA
 cases xs.find? fun x=>x.id==z with
 | none=>exact .inl rfl
 | some y=>exact .inr ⟨y,rfl⟩
theorem Ep {xs:List Ev} {k:Nat} {x:Ev} (h:xs[k]? =some x)(hn:bA (xs.take k) x.id=none):(fun y=>if y=x.id then some (.agg (Ev.enc x).toArray) else bA (xs.take k) y)=bA (xs.take (k+1)):=by
 funext y
 unfold bA at *
 rw [iB xs k x h,SE]
 have hn':(xs.take k).find? (fun z=>z.id==x.id)=none:=by simpa using hn
 by_cases hy:y=x.id
 · subst hy
   rw [if_pos rfl,hn']
   simp
 · rw [if_neg hy]
   have:[x].find? (fun z=>z.id==y)=none:=by simp;omega
   rw [this]
   cases (xs.take k).find? (fun z=>z.id==y)<;>rfl
theorem Eo {xs:List Ev} {k:Nat} {x:Ev} {v:Sx} (h:xs[k]? =some x)(hn:bA (xs.take k) x.id=some v):bA (xs.take k)=bA (xs.take (k+1)):=by
 funext y
 unfold bA at *
 rw [iB xs k x h,SE]
 by_cases hy:y=x.id
 · subst hy
   cases he:(xs.take k).find? (fun z=>z.id==x.id) with
   | none=>rw [he] at hn;cases hn
   | some _=>rfl
 · have:[x].find? (fun z=>z.id==y)=none:=by simp;omega
   rw [this]
   cases (xs.take k).find? (fun z=>z.id==y)<;>rfl
theorem B7 (xs:List Cm)(z:Int):bp xs z=none∨∃ y,bp xs z=some (.agg (Cm.enc y).toArray):=by
 unfold bp
 cases xs.find? fun x=>x.id==z with
 | none=>exact .inl rfl
 | some y=>exact .inr ⟨y,rfl⟩
theorem Ew {xs:List Cm} {k:Nat} {x:Cm} (h:xs[k]? =some x)(hn:bp (xs.take k) x.id=none):(fun y=>if y=x.id then some (.agg (Cm.enc x).toArray) else bp (xs.take k) y)=bp (xs.take (k+1)):=by
 funext y
 unfold bp at *
 rw [iB xs k x h,SE]
 have hn':(xs.take k).find? (fun z=>z.id==x.id)=none:=by simpa using hn
 by_cases hy:y=x.id
 · subst hy
   rw [if_pos rfl,hn']
   simp
 · rw [if_neg hy]
   have:[x].find? (fun z=>z.id==y)=none:=by simp;omega
   rw [this]
   cases (xs.take k).find? (fun z=>z.id==y)<;>rfl
theorem Eu {xs:List Cm} {k:Nat} {x:Cm} {v:Sx} (h:xs[k]? =some x)(hn:bp (xs.take k) x.id=some v):bp (xs.take k)=bp (xs.take (k+1)):=by
 funext y
 unfold bp at *
 rw [iB xs k x h,SE]
 by_cases hy:y=x.id
 · subst hy
   cases he:(xs.take k).find? (fun z=>z.id==x.id) with
   | none=>rw [he] at hn;cases hn
   | some _=>rfl
 · have:[x].find? (fun z=>z.id==y)=none:=by simp;omega
   rw [this]
   cases (xs.take k).find? (fun z=>z.id==y)<;>rfl
def iP (d:Doc)(w:Sv)(e:Ending)(w':Sv):Prop:=∃ b1 b2,e=.returned (.agg #[.map (some b1),.map (some b2)])∧VMap w' b1 d.eV.length (bA d.eV)∧VMap w' b2 d.cM.length (bp d.cM)∧w.heap.size≤b1∧w.heap.size≤b2∧SK w.heap.size w w'
def FRel (ds:Array Sx)(eV:List Ev)(cM:List Cm)(w:Sv)(k m:Nat)(wr:Sv):Prop :=
 VMap wr (w.heap.size+1+1) k (bA (eV.take k))∧VMap wr (w.heap.size+1+1+1) m (bp (cM.take m))∧wr.heap[w.heap.size]? =some (.cells ds 27 (0,0))∧wr.heap[w.heap.size+1]? =some (.cells #[.map none,.map none] 148 (0,0))∧wr.heap[w.heap.size+1+1+1+1]? =some (.cells #[.map (some (w.heap.size+1+1)),.map (some (w.heap.size+1+1+1))] 148 (0,0))∧SK w.heap.size w wr
section
variable {ds:Array Sx} {eV:List Ev} {cM:List Cm} {w wr:Sv} {k m:Nat}
theorem FRel.below (h:FRel ds eV cM w k m wr):SK w.heap.size w wr:=h.2.2.2.2.2
theorem FRel.dsAt (h:FRel ds eV cM w k m wr):wr.heap[w.heap.size]? =some (.cells ds 27 (0,0)):=h.2.2.1
theorem FRel.fb (h:FRel ds eV cM w k m wr):wr.heap[w.heap.size+1+1+1+1]? =some (.cells #[.map (some (w.heap.size+1+1)),.map (some (w.heap.size+1+1+1))] 148 (0,0)):=h.2.2.2.2.1
theorem FRel.size (h:FRel ds eV cM w k m wr):w.heap.size+1+1+1+1<wr.heap.size:=(Array.getElem?_eq_some_iff.1 h.fb).1
theorem FRel.start (ds:Array Sx)(eV:List Ev)(cM:List Cm)(w:Sv):FRel ds eV cM w 0 0 (((((w.alloc (.cells ds 27)).alloc (.cells #[.map none,.map none] 148)).alloc (.map #[] 0)).alloc (.map #[] 0)).alloc (.cells #[.map (some (w.heap.size+1+1)),.map (some (w.heap.size+1+1+1))] 148)):=by
 have e2:((w.alloc (.cells ds 27)).alloc (.cells #[.map none,.map none] 148)).heap.size=w.heap.size+1+1:=by simp
 have e3:(((w.alloc (.cells ds 27)).alloc (.cells #[.map none,.map none] 148)).alloc (.map #[] 0)).heap.size=w.heap.size+1+1+1:=by simp
 refine⟨?_,?_,?_,?_,?_,?_⟩
 · have:=VMap.made ((w.alloc (.cells ds 27)).alloc (.cells #[.map none,.map none] 148))
   rw [e2] at this
   exact(this.below ((SM _ _).alloc (SN _) _) (by simp)).below ((SM _ _).alloc (SN _) _) (by simp)
 · have:=VMap.made (((w.alloc (.cells ds 27)).alloc (.cells #[.map none,.map none] 148)).alloc (.map #[] 0))
   rw [e3] at this
   exact this.below ((SM _ _).alloc (SN _) _) (by simp)
 · rw [SL _ _ _ (by simp;try omega),SL _ _ _ (by simp;try omega),SL _ _ _ (by simp;try omega),SL _ _ _ (by simp)]
   exact Sz w _
 · rw [SL _ _ _ (by simp),SL _ _ _ (by simp),SL _ _ _ (by simp)]
   have:=Sz (w.alloc (.cells ds 27)) (.cells #[.map none,.map none] 148)
   simpa using this
 · have:=Sz ((((w.alloc (.cells ds 27)).alloc (.cells #[.map none,.map none] 148)).alloc (.map #[] 0)).alloc (.map #[] 0)) (.cells #[.map (some (w.heap.size+1+1)),.map (some (w.heap.size+1+1+1))] 148)
   simpa using this
 · exact((((((SM _ _).alloc (SN _) _).alloc (by simp) _).alloc (by simp;try omega) _).alloc (by simp;try omega) _).alloc (by simp;try omega) _)
theorem FRel.evTurn {w3:Sv} {k':Nat} (h:FRel ds eV cM w k m wr)(hb:SK wr.heap.size wr w3∨∃ w2,SK wr.heap.size wr w2∧w2.grownBy w3 (some (w.heap.size+1+1)))(h1:VMap w3 (w.heap.size+1+1) k' (bA (eV.take k'))):FRel ds eV cM w k' m w3:=by
 have hs:=h.size
 have hk:∀ b,b<wr.heap.size→b≠w.heap.size+1+1→w3.heap[b]? =wr.heap[b]?:=fun b h1 h2=>by
  rcases hb with hb|⟨w2,hb,hg⟩
  · exact hb.block b h1
  · rw [hg.block b (SQ h1 hb.size) (fun e=>h2 (SS e)),hb.block b h1]
 refine⟨h1,h.2.1.kept (hk _ h.2.1.lt (by omega)),(hk _ (by omega) (by omega)).trans h.2.2.1,(hk _ (by omega) (by omega)).trans h.2.2.2.1,(hk _ (by omega) (by omega)).trans h.fb,?_⟩
 rcases hb with hb|⟨w2,hb,hg⟩
 · exact h.below.trans (hb.mono (by omega))
 · exact(h.below.trans (hb.mono (by omega))).grown hg (by have:=hb.size;omega) (fun j hj=>by have:=SS hj;omega)
theorem FRel.cmTurn {w3:Sv} {m':Nat} (h:FRel ds eV cM w k m wr)(hb:SK wr.heap.size wr w3∨∃ w2,SK wr.heap.size wr w2∧w2.grownBy w3 (some (w.heap.size+1+1+1)))(h1:VMap w3 (w.heap.size+1+1+1) m' (bp (cM.take m'))):FRel ds eV cM w k m' w3:=by
 have hs:=h.size
 have hk:∀ b,b<wr.heap.size→b≠w.heap.size+1+1+1→w3.heap[b]? =wr.heap[b]?:=fun b h1 h2=>by
  rcases hb with hb|⟨w2,hb,hg⟩
  · exact hb.block b h1
  · rw [hg.block b (SQ h1 hb.size) (fun e=>h2 (SS e)),hb.block b h1]
 refine⟨h.1.kept (hk _ h.1.lt (by omega)),h1,(hk _ (by omega) (by omega)).trans h.2.2.1,(hk _ (by omega) (by omega)).trans h.2.2.2.1,(hk _ (by omega) (by omega)).trans h.fb,?_⟩
 rcases hb with hb|⟨w2,hb,hg⟩
 · exact h.below.trans (hb.mono (by omega))
 · exact(h.below.trans (hb.mono (by omega))).grown hg (by have:=hb.size;omega) (fun j hj=>by have:=SS hj;omega)
theorem fU (wr:Sv)(o o':Obj):SK wr.heap.size wr ((wr.alloc o).alloc o'):=((SM _ _).alloc (SN _) _).alloc (by simp) _
theorem FRel.evPut {x:Ev} {o o':Obj} {w3:Sv} (h:FRel ds eV cM w k m wr)(hx:eV[k]? =some x)(hn:bA (eV.take k) x.id=none)(h1:VMap w3 (w.heap.size+1+1) (k+1) (fun y=>if y=x.id then some (.agg x.enc.toArray) else bA (eV.take k) y))(h2:((wr.alloc o).alloc o').grownBy w3 (some (w.heap.size+1+1))):FRel ds eV cM w (k+1) m w3 :=
 h.evTurn (.inr ⟨_,fU wr o o',h2⟩) (by rw [←Ep hx hn];exact h1)
theorem FRel.evSkip {x:Ev} {o o':Obj} {v:Sx} (h:FRel ds eV cM w k m wr)(hx:eV[k]? =some x)(hn:bA (eV.take k) x.id=some v):FRel ds eV cM w (k+1) m ((wr.alloc o).alloc o') :=
 h.evTurn (.inl (fU wr o o')) (by rw [←Eo hx hn];exact(h.1.below (fU wr o o') h.1.lt).mono (by omega))
theorem FRel.cmPut {x:Cm} {o o':Obj} {w3:Sv} (h:FRel ds eV cM w k m wr)(hx:cM[m]? =some x)(hn:bp (cM.take m) x.id=none)(h1:VMap w3 (w.heap.size+1+1+1) (m+1) (fun y=>if y=x.id then some (.agg x.enc.toArray) else bp (cM.take m) y))(h2:((wr.alloc o).alloc o').grownBy w3 (some (w.heap.size+1+1+1))):FRel ds eV cM w k (m+1) w3 :=
 h.cmTurn (.inr ⟨_,fU wr o o',h2⟩) (by rw [←Ew hx hn];exact h1)
theorem FRel.cmSkip {x:Cm} {o o':Obj} {v:Sx} (h:FRel ds eV cM w k m wr)(hx:cM[m]? =some x)(hn:bp (cM.take m) x.id=some v):FRel ds eV cM w k (m+1) ((wr.alloc o).alloc o') :=
 h.cmTurn (.inl (fU wr o o')) (by rw [←Eu hx hn];exact(h.2.1.below (fU wr o o') h.2.1.lt).mono (by omega))
theorem FRel.fin {d:Doc} {w':Sv} (h:FRel ds d.eV d.cM w d.eV.length d.cM.length wr)(hw:wr.heap.size≤w'.heap.size∧∀ b,b≠w.heap.size+1→w'.heap[b]? =wr.heap[b]?)(ht:w'.os=wr.os∧w'.tape=wr.tape∧w'.output=wr.output):iP d w (.returned (.agg #[.map (some (w.heap.size+1+1)),.map (some (w.heap.size+1+1+1))])) w':=by
 have hb:=h.below
 refine⟨_,_,rfl,?_,?_,by omega,by omega,ht.1.trans hb.os,ht.2.1.trans hb.tape,ht.2.2.trans hb.output,SO hb.size hw.1,fun b hb'=>(hw.2 b (by omega)).trans (hb.block b hb')⟩
 · have:=h.1.kept (w':=w') (hw.2 _ (by omega))
   rwa [SJ] at this
 · have:=h.2.1.kept (w':=w') (hw.2 _ (by omega))
   rwa [SJ] at this
end
theorem fj (d:Doc)(w:Sv)(hd:d.lies w)(hf:d.fits) :
 Calls SA 79 #[.agg d.enc.toArray] w (iP d w):=by
 have aA:=h_ (fun(ds:Array Sx) (wr:Sv) (h:FRel ds d.eV d.cM w d.eV.length d.cM.length wr) (w':Sv) (hw:wr.heap.size≤w'.heap.size∧∀ b,b≠w.heap.size+1→w'.heap[b]? =wr.heap[b]?) (ht:w'.os=wr.os∧w'.tape=wr.tape∧w'.output=wr.output)=>h.fin hw ht)
 generalize iP d w=Q at *
 have EP:=h_ hd.2.1
 have EX:=h_ hd.2.2
 have Hn:=h_ hf.2.2.2.2.2.2.2.1
 have Ac:=h_ hf.2.2.2.2.2.2.2.2.1
 have JX:=h_ hf.2.2.2.2.2.2.2.2.2.1
 have EW:=h_ hf.2.2.2.2.2.2.2.2.2.2
 obtain⟨title,lang,rate,drop,last,ra,rc,rG,ea,ec,eV,ca,cc,cM⟩:=d
 clear hd hf
 simp only [Doc.enc] at *
 have hle:=Ac.out
 have hlc:=EW.out
 have HST:=h_ (FRel.start #[SV title,.string lang,.int .u8 rate,.bool drop,.int .i64 last,.slice ra rG.length rc,.slice ea eV.length ec,.slice ca cM.length cc] eV cM w)
 generalize hds:#[SV title,.string lang,.int .u8 rate,.bool drop,.int .i64 last,.slice ra rG.length rc,.slice ea eV.length ec,.slice ca cM.length cc]=ds at *
 have hd7:ds[7]? =some (.slice ca cM.length cc):=by rw [←hds];rfl
 have hmm:=@run_makeMap SA
 go_enter Tryz.func79,Tryz.ntmps79
 subst hds
 go_wp2_with fail
 have HDS:=h_ hd7
 clear hd7
 generalize hds:#[SV title,.string lang,.int .u8 rate,.bool drop,.int .i64 last,.slice ra rG.length rc,.slice ea eV.length ec,.slice ca cM.length cc]=ds at *
 clear hds
 go_loopw [18] (fun i wr=>∃ k:Nat,k≤eV.length∧i=.int .i64 k∧FRel ds eV cM w k 0 wr) (fun i _=>eV.length-(intOf i).toNat)
 case atStart=>exact⟨0,by omega,rfl,HST.out⟩
 case round =>
  clear HST hmm
  obtain⟨k,hk,rfl,hrel⟩:=hrel
  by_cases hlt:k<eV.length
  · obtain⟨b,off,x,rfl,hbl,hx,hc,hok⟩:=(EP.out.later hrel.below).at_ hlt
    have hid:i64 x.id:=(Hn.out x (SG hx)).1
    have HM:=h_ (fun(o:Obj)=>hrel.1.below ((SM _ _).alloc (SN _) o) hrel.1.lt)
    have iN:=h_ (fun(o:Obj)=>(HM.out o).look SC (EZ _) hid)
    have JV:=h_ (fun(o o':Obj)=>(HM.out o).below ((SM _ _).alloc (SN _) o') (HM.out o).lt)
    have Ig:=h_ hid
    have kC:=h_ hrel
    have HX:=h_ hx
    have hkl:k<maxLen:=by have:=Ac.out;unfold maxLen;omega
    have hsz:w.heap.size+1+1+1+1<wr.heap.size:=hrel.size
    have c4:∀ o,(wr.alloc o).cell? ⟨w.heap.size+1+1+1+1,0,none⟩=some (.map (some (w.heap.size+1+1))):=fun o=>by rw [SW _ _ _ (by simpa using hsz)];exact Sw _ _ 0 _ 148 (0,0) hrel.fb
    have c4':∀ o o',((wr.alloc o).alloc o').cell? ⟨w.heap.size+1+1+1+1,0,none⟩=some (.map (some (w.heap.size+1+1))):=fun o o'=>by rw [SW _ _ _ (by simp;omega)];exact c4 o
    have Cs:=h_ (fun(o o':Obj) (w3:Sv) (hn:bA (eV.take k) x.id=none) (h1:VMap w3 (w.heap.size+1+1) (k+1) (fun y=>if y=x.id then some (.agg (Ev.enc x).toArray) else bA (eV.take k) y)) (h2:((wr.alloc o).alloc o').grownBy w3 (some (w.heap.size+1+1)))=>FRel.evPut hrel hx hn h1 h2)
    have jh:=h_ (fun(o o':Obj) (v:Sx) (hn:bA (eV.take k) x.id=some v)=>FRel.evSkip (o:=o) (o':=o') hrel hx hn)
    have JM:=h_ (BY (eV.take k) x.id)
    clear hrel hx hok
    obtain⟨id,inn,out,reg,kind,sp,xa,xc,xr⟩:=x
    have d0:=hc 0 _ rfl;have d1:=hc 1 _ rfl;have d2:=hc 2 _ rfl;have d3:=hc 3 _ rfl;have d4:=hc 4 _ rfl;have d5:=hc 5 _ rfl;have d6:=hc 6 _ rfl
    simp only [SR,Ev.enc] at d0 d1 d2 d3 d4 d5 d6 iN Cs jh JM JV Ig
    clear hc
    generalize hV:bA (eV.take k)=f at *
    rcases JM.out with hn|⟨⟨id2,inn2,out2,reg2,kind2,sp2,xa2,xc2,xr2⟩,hn⟩
    · simp only [hn,S6,SZ] at iN
      clear hV JM jh
      have HN:=h_ hn
      clear hn
      go_wp2_with (first
       | (at_lookup;refine aa _ rfl _ _ _ _ rfl _ _ _ rfl rfl (iN.out _) ?_)
       | (at_mapUpdate;refine iQ _ rfl _ _ _ 145 50 rfl SC (w.heap.size+1+1) k f rfl (JV.out _ _) hkl _ rfl Ig.out _ rfl ?_;intro w3 h3 hg3;have HR3:=h_ (Cs.out _ _ _ HN.out h3 hg3);clear h3 hg3))
      go_roundw
      case rel=>exact⟨k+1,by omega,by go_num,HR3.out⟩
      case measure=>simp [intOf];omega
    · simp only [hn,S5,SY,Ev.enc] at iN
      have HR3:=h_ (fun o o'=>jh.out o o' _ hn)
      clear hV hn JM Cs
      go_wp2_with (at_lookup;refine aa _ rfl _ _ _ _ rfl _ _ _ rfl rfl (iN.out _) ?_)
      go_roundw
      case rel=>exact⟨k+1,by omega,by go_num,HR3.out _ _⟩
      case measure=>simp [intOf];omega
  · obtain rfl:k=eV.length:=by omega
    have c7:wr.cell? ⟨w.heap.size,7,none⟩=some (.slice ca cM.length cc):=by rw [Sw _ _ 7 ds 27 (0,0) hrel.dsAt];exact HDS.out
    have kC:=h_ hrel
    clear hrel
    go_wp2_with fail
    clear c7
    go_loopw [41] (fun i wq=>∃ k:Nat,k≤cM.length∧i=.int .i64 k∧FRel ds eV cM w eV.length k wq) (fun i _=>cM.length-(intOf i).toNat)
    case atStart=>exact⟨0,by omega,rfl,kC.out⟩
    case round =>
     clear kC hk hlt
     obtain⟨k,hk,rfl,hrel⟩:=hrel
     by_cases hlt:k<cM.length
     · obtain⟨b,off,x,rfl,hbl,hx,hc,hok⟩:=(EX.out.later hrel.below).at_ hlt
       have hid:i64 x.id:=(JX.out x (SG hx)).1
       have HM:=h_ (fun(o:Obj)=>hrel.2.1.below ((SM _ _).alloc (SN _) o) hrel.2.1.lt)
       have iN:=h_ (fun(o:Obj)=>(HM.out o).look SB (CB _) hid)
       have JV:=h_ (fun(o o':Obj)=>(HM.out o).below ((SM _ _).alloc (SN _) o') (HM.out o).lt)
       have Ig:=h_ hid
       have kC:=h_ hrel
       have HX:=h_ hx
       have hkl:k<maxLen:=by have:=EW.out;unfold maxLen;omega
       have hsz:w.heap.size+1+1+1+1<wr.heap.size:=hrel.size
       have c4:∀ o,(wr.alloc o).cell? ⟨w.heap.size+1+1+1+1,1,none⟩=some (.map (some (w.heap.size+1+1+1))):=fun o=>by rw [SW _ _ _ (by simpa using hsz)];exact Sw _ _ 1 _ 148 (0,0) hrel.fb
       have c4':∀ o o',((wr.alloc o).alloc o').cell? ⟨w.heap.size+1+1+1+1,1,none⟩=some (.map (some (w.heap.size+1+1+1))):=fun o o'=>by rw [SW _ _ _ (by simp;omega)];exact c4 o
       have Cs:=h_ (fun(o o':Obj) (w3:Sv) (hn:bp (cM.take k) x.id=none) (h1:VMap w3 (w.heap.size+1+1+1) (k+1) (fun y=>if y=x.id then some (.agg (Cm.enc x).toArray) else bp (cM.take k) y)) (h2:((wr.alloc o).alloc o').grownBy w3 (some (w.heap.size+1+1+1)))=>FRel.cmPut hrel hx hn h1 h2)
       have jh:=h_ (fun(o o':Obj) (v:Sx) (hn:bp (cM.take k) x.id=some v)=>FRel.cmSkip (o:=o) (o':=o') hrel hx hn)
       have JM:=h_ (B7 (cM.take k) x.id)
       clear hrel hx hok
       obtain⟨id,cev,frm,til,au,tx,dn,lo⟩:=x
       have d0:=hc 0 _ rfl;have d1:=hc 1 _ rfl;have d2:=hc 2 _ rfl;have d3:=hc 3 _ rfl;have d4:=hc 4 _ rfl;have d5:=hc 5 _ rfl;have d6:=hc 6 _ rfl;have d7:=hc 7 _ rfl
       simp only [SR,Cm.enc] at d0 d1 d2 d3 d4 d5 d6 d7 iN Cs jh JM JV Ig
       clear hc
       generalize hV:bp (cM.take k)=f at *
       rcases JM.out with hn|⟨⟨id2,cev2,frm2,til2,au2,tx2,dn2,lo2⟩,hn⟩
       · simp only [hn,S6,SZ] at iN
         clear hV JM jh
         have HN:=h_ hn
         clear hn
         go_wp2_with (first
          | (at_lookup;refine aa _ rfl _ _ _ _ rfl _ _ _ rfl rfl (iN.out _) ?_)
          | (at_mapUpdate;refine iQ _ rfl _ _ _ 146 52 rfl SB (w.heap.size+1+1+1) k f rfl (JV.out _ _) hkl _ rfl Ig.out _ rfl ?_;intro w3 h3 hg3;have HR3:=h_ (Cs.out _ _ _ HN.out h3 hg3);clear h3 hg3))
         go_roundw
         case rel=>exact⟨k+1,by omega,by go_num,HR3.out⟩
         case measure=>simp [intOf];omega
       · simp only [hn,S5,SY,Cm.enc] at iN
         have HR3:=h_ (fun o o'=>jh.out o o' _ hn)
         clear hV hn JM Cs
         go_wp2_with (at_lookup;refine aa _ rfl _ _ _ _ rfl _ _ _ rfl rfl (iN.out _) ?_)
         go_roundw
         case rel=>exact⟨k+1,by omega,by go_num,HR3.out _ _⟩
         case measure=>simp [intOf];omega
     · obtain rfl:k=cM.length:=by omega
       have ln:=hrel.fb
       have hrb:=hrel.2.2.2.1
       have HF:=h_ (aA.out ds wr hrel)
       have c4:∀ j,wr.cell? ⟨w.heap.size+1+1+1+1,j,none⟩=_:=fun j=>Sw _ _ j _ 148 (0,0) ln
       have c1:∀ j,wr.cell? ⟨w.heap.size+1,j,none⟩=_:=fun j=>Sw _ _ j _ 148 (0,0) hrb
       have z1:∀ j,wr.frozen? ⟨w.heap.size+1,j,none⟩=false:=fun j=>by simp [SX,hrb]
       clear hrel ln hrb
       go_wp2_with fail
       refine bodyPost_ret (v:=.agg #[.map (some (w.heap.size+1+1)),.map (some (w.heap.size+1+1+1))]) (by simp [results,Tryz.results79,go_sem,c1]) rfl ?_
       refine HF.out _ ⟨by simp,fun b hb=>?_⟩ ⟨rfl,rfl,rfl⟩
       repeat rw [SK.heap_setCell _ _ _ _ hb]
end Go.Proofs.YtnlnmbcaongehaaGreatDoor
namespace Go.Proofs.YtnlnmbcaongehaaGreatDoor
open Go.RowKit
structure bZ (w:Sv)(b1 b2:Nat)(n:Nat)(xs:List Ev)(ys:List Cm):Prop where
 ev:VMap w b1 n (bA xs)
 cm:VMap w b2 n (bp ys)
theorem bZ.kept {w w':Sv} {b1 b2 n:Nat} {xs:List Ev} {ys:List Cm} (h:bZ w b1 b2 n xs ys)(h1:w'.heap[b1]? =w.heap[b1]?)(h2:w'.heap[b2]? =w.heap[b2]?):bZ w' b1 b2 n xs ys:=⟨h.ev.kept h1,h.cm.kept h2⟩
theorem bZ.later {w w':Sv} {b1 b2 n:Nat} {xs:List Ev} {ys:List Cm} (h:bZ w b1 b2 n xs ys)(hb:SK w.heap.size w w'):bZ w' b1 b2 n xs ys:=h.kept (hb.block _ h.ev.lt) (hb.block _ h.cm.lt)
def bm (xs:List Ev)(z:Int):Bool:=(xs.find? fun x=>x.id==z).isSome
def bo (xs:List Cm)(z:Int):Bool:=(xs.find? fun x=>x.id==z).isSome
def qg (xs xs':List Ev)(ys ys':List Cm)(z:Int):Bool:=(bm xs' z&&!bm xs z)||(bo ys' z&&!bo ys z)
theorem qO {w:Sv} {b n:Nat} {xs:List Ev} (h:VMap w b n (bA xs)) {z:Int} (hz:i64 z) :
 ∃ y:Ev,(∀ w',w'.heap[b]? =w.heap[b]?→(S7 145 (.map (some b)) (.int .i64 z) true).run SA w'=.ok (.tuple #[.agg y.enc.toArray,.bool (bm xs z)]) w')∧y=(xs.find? fun x=>x.id==z).getD aJ:=by
 refine⟨_,fun w' hw=>?_,rfl⟩
 have:=(h.kept hw).look SC (EZ _) hz
 rw [this]
 unfold bA bm
 cases xs.find? fun x=>x.id==z<;>rfl
theorem Dd {w:Sv} {b n:Nat} {ys:List Cm} (h:VMap w b n (bp ys)) {z:Int} (hz:i64 z) :
 ∃ y:Cm,(∀ w',w'.heap[b]? =w.heap[b]?→(S7 146 (.map (some b)) (.int .i64 z) true).run SA w'=.ok (.tuple #[.agg y.enc.toArray,.bool (bo ys z)]) w')∧y=(ys.find? fun x=>x.id==z).getD aM:=by
 refine⟨_,fun w' hw=>?_,rfl⟩
 have:=(h.kept hw).look SB (CB _) hz
 rw [this]
 unfold bp bo
 cases ys.find? fun x=>x.id==z<;>rfl
theorem ny {w:Sv} {o1 o2 o3 o4 o5 o6:Obj} {b:Nat} (hb:b<w.heap.size):((w.alloc o1).alloc o2).heap[b]? =w.heap[b]?∧(((w.alloc o1).alloc o2).alloc o3).heap[b]? =w.heap[b]?∧((((w.alloc o1).alloc o2).alloc o3).alloc o4).heap[b]? =w.heap[b]?∧(((((w.alloc o1).alloc o2).alloc o3).alloc o4).alloc o5).heap[b]? =w.heap[b]?:=by
 refine⟨?_,?_,?_,?_⟩
 · rw [SL _ _ _ (by simp;omega),SL _ _ _ hb]
 · rw [SL _ _ _ (by simp;omega),SL _ _ _ (by simp;omega),SL _ _ _ hb]
 · rw [SL _ _ _ (by simp;omega),SL _ _ _ (by simp;omega),SL _ _ _ (by simp;omega),SL _ _ _ hb]
 · rw [SL _ _ _ (by simp;omega),SL _ _ _ (by simp;omega),SL _ _ _ (by simp;omega),SL _ _ _ (by simp;omega),SL _ _ _ hb]
theorem vF (b1 b2 c1 c2 n m:Nat)(xs xs':List Ev)(ys ys':List Cm)(z:Int)(w:Sv)(hf:bZ w b1 b2 n xs ys)(hg:bZ w c1 c2 m xs' ys')(hz:i64 z) :
 Calls SA 125 #[.agg #[.map (some b1),.map (some b2)],.agg #[.map (some c1),.map (some c2)],.int .i64 z] w fun e w'=>e=.returned (.bool (qg xs xs' ys ys' z))∧SK w.heap.size w w':=by
 obtain⟨e1,h1,_⟩:=qO hf.ev hz
 obtain⟨e2,h2,_⟩:=Dd hf.cm hz
 obtain⟨e3,h3,_⟩:=qO hg.ev hz
 obtain⟨e4,h4,_⟩:=Dd hg.cm hz
 have L1:=h_ (fun o1 o2=>h1 ((w.alloc o1).alloc o2) (ny (o3:=o1) (o4:=o1) (o5:=o1) (o6:=o1) hf.ev.lt).1)
 have L2:=h_ (fun o1 o2 o3=>h2 (((w.alloc o1).alloc o2).alloc o3) (ny (o4:=o1) (o5:=o1) (o6:=o1) hf.cm.lt).2.1)
 have L3:=h_ (fun o1 o2 o3 o4=>h3 ((((w.alloc o1).alloc o2).alloc o3).alloc o4) (ny (o5:=o1) (o6:=o1) hg.ev.lt).2.2.1)
 have L4:=h_ (fun o1 o2 o3 o4 o5=>h4 (((((w.alloc o1).alloc o2).alloc o3).alloc o4).alloc o5) (ny (o6:=o1) hg.cm.lt).2.2.2)
 have HU:=h_ (show qg xs xs' ys ys' z=((bm xs' z&&!bm xs z)||(bo ys' z&&!bo ys z)) from rfl)
 generalize qg xs xs' ys ys' z=R at *
 generalize bm xs z=A at *
 generalize bm xs' z=B at *
 generalize bo ys z=C at *
 generalize bo ys' z=D at *
 clear h1 h2 h3 h4 hf hg
 have HB:Hid (∀ o1 o2 o3 o4 o5 o6:Obj,SK w.heap.size w ((((((w.alloc o1).alloc o2).alloc o3).alloc o4).alloc o5).alloc o6)):=h_ (fun o1 o2 o3 o4 o5 o6=>((((((SM _ _).alloc (SN _) _).alloc (by simp) _).alloc (by simp;try omega) _).alloc (by simp;try omega) _).alloc (by simp;try omega) _).alloc (by simp;try omega) _)
 obtain⟨i1,a1,a2,a3,a4,a5,a6,a7,a8⟩:=e1
 obtain⟨i3,q1,q2,q3,q4,q5,q6,q7,q8⟩:=e3
 obtain⟨i2,r1,r2,r3,r4,r5,r6,r7⟩:=e2
 obtain⟨i4,s1,s2,s3,s4,s5,s6,s7⟩:=e4
 simp only [Ev.enc,Cm.enc] at L1 L2 L3 L4
 go_enter Tryz.func125,Tryz.ntmps125
 go_wp2_with (first
  | (at_lookup;refine aa _ rfl _ _ _ _ rfl _ _ _ rfl rfl (L1.out _ _) ?_)
  | (at_lookup;refine aa _ rfl _ _ _ _ rfl _ _ _ rfl rfl (L2.out _ _ _) ?_)
  | (at_lookup;refine aa _ rfl _ _ _ _ rfl _ _ _ rfl rfl (L3.out _ _ _ _) ?_)
  | (at_lookup;refine aa _ rfl _ _ _ _ rfl _ _ _ rfl rfl (L4.out _ _ _ _ _) ?_))
 all_goals
  go_ret
  rw [HU.out]
  refine⟨?_,HB.out _ _ _ _ _ _⟩
  clear L1 L2 L3 L4 HB
  cases A<;>cases B<;>cases C<;>cases D<;>first|rfl|contradiction
theorem lS (xs:List Ev)(z:Int):aj (xs.map Ev.c) z=(xs.find? fun x=>x.id==z).map Ev.c:=by
 unfold aj
 rw [List.find?_map]
 rfl
theorem Er (o:Option Ev):kV (o.map Ev.c)=kV (some (o.getD aJ).c):=by
 cases o<;>rfl
theorem oJ {x:Ev} (h:x.fits):(kV (some x.c)).size≤20000000000000:=by
 have h1:=mL (n:=4000000) (x.rows.map Row.runs) (fun r hr=>by
  obtain⟨q,hq,rfl⟩:=List.mem_map.1 hr
  exact(h.2.2.2.2.2.2.2.1 q hq).2.2)
 rw [List.length_map] at h1
 have h2:=Nat.mul_le_mul_right 4000001 h.2.2.2.2.2.2.2.2
 have h3:(kV (some x.c)).size=(fp (x.rows.map Row.runs)).length:=by
  show(fp (x.rows.map Row.runs)).toArray.size=_
  simp
 rw [h3]
 exact SO h1 (SO h2 (by decide))
theorem mI:aJ.fits:=by
 refine⟨⟨by decide,by decide⟩,⟨by decide,by decide⟩,⟨by decide,by decide⟩,by decide,by decide,by decide,by decide,?_,by decide⟩
 intro r hr
 cases hr
def fI (xs ts:List EvC)(ys:List Cm)(z:Int):Option Sx:=((ys.find? fun y=>y.id==z).map (lC xs ts)).map fun y=>.agg y.enc.toArray
theorem Bz {xs ts:List EvC} {ys:List Cm} {z:Int} (h:(bp ys z).isSome=false):fI xs ts ys z=none:=by
 unfold bp at h
 unfold fI
 cases hf:ys.find? (fun y=>y.id==z) with
 | none=>rfl
 | some y=>rw [hf] at h;simp at h
def Cm.tame (c:Cm):Prop:=c.fits∧(c.lost=false→(-1000000000000000000≤c.frm∧c.frm≤1000000000000000000)∧(-1000000000000000000≤c.til∧c.til≤1000000000000000000))
def Dl (n:Nat)(xs ts:List EvC)(ys:List Cm)(w:Sv)(e:Ending)(w':Sv):Prop:=∃ b,e=.returned (.map (some b))∧VMap w' b n (fI xs ts ys)∧w.heap.size≤b∧SK w.heap.size w w'
theorem Kept.setAt {g:Nat} {a w:Sv} (h:Kept (fun b=>b=g) a w)(j:Nat)(u:Sx):Kept (fun b=>b=g) a (w.setCell ⟨g,j,none⟩ u):=h.setCell (.inr rfl) u
theorem IX {w:Sv} {g:Nat} {id ev frm til:Int} {au tx:ByteArray} {dn lo:Bool} (h:w.heap[g]? =some (.cells #[.int .i64 id,.int .i64 ev,.int .i64 frm,.int .i64 til,.string au,.string tx,.bool dn,.bool lo] 52 (0,0))) :
 (((w.setCell ⟨g,2,none⟩ (.int .i64 0)).setCell ⟨g,3,none⟩ (.int .i64 0)).setCell ⟨g,7,none⟩ (.bool true)).heap[g]? =some (.cells (Cm.enc ⟨id,ev,0,0,au,tx,dn,true⟩).toArray 52 (0,0)):=by
 rw [Su _ _ _ _ _ _ (Su _ _ _ _ _ _ (Su _ _ _ _ _ _ h))]
 rfl
theorem put8 (v0 v1 v2 v3 v4 v5 v6 v7 a0 a1 a2 a3 a4 a5 a6 a7:Sx):(((((((#[v0,v1,v2,v3,v4,v5,v6,v7].setIfInBounds 0 a0).setIfInBounds 1 a1).setIfInBounds 2 a2).setIfInBounds 3 a3).setIfInBounds 4 a4).setIfInBounds 5 a5).setIfInBounds 6 a6).setIfInBounds 7 a7=#[a0,a1,a2,a3,a4,a5,a6,a7]:=by
 simp only [SF,SH,SI]
theorem Dc {w:Sv} {g:Nat} {v0 v1 v2 v3 v4 v5 v6 v7:Sx} {id ev frm til:Int} {au tx:ByteArray} {dn lo:Bool} (h:w.heap[g]? =some (.cells #[v0,v1,v2,v3,v4,v5,v6,v7] 52 (0,0))) :
 ((((((((w.setCell ⟨g,0,none⟩ (.int .i64 id)).setCell ⟨g,1,none⟩ (.int .i64 ev)).setCell ⟨g,2,none⟩ (.int .i64 frm)).setCell ⟨g,3,none⟩ (.int .i64 til)).setCell ⟨g,4,none⟩ (.string au)).setCell ⟨g,5,none⟩ (.string tx)).setCell ⟨g,6,none⟩ (.bool dn)).setCell ⟨g,7,none⟩ (.bool lo)).heap[g]? =some (.cells (Cm.enc ⟨id,ev,frm,til,au,tx,dn,lo⟩).toArray 52 (0,0)):=by
 rw [Su _ _ _ _ _ _ (Su _ _ _ _ _ _ (Su _ _ _ _ _ _ (Su _ _ _ _ _ _ (Su _ _ _ _ _ _ (Su _ _ _ _ _ _ (Su _ _ _ _ _ _ (Su _ _ _ _ _ _ h))))))),put8]
 rfl
theorem oF (b1 b2 c1 c2 n:Nat)(xs ts:List Ev)(ys us:List Cm)(w:Sv)(hf:bZ w b1 b2 n xs ys)(ht:bZ w c1 c2 n ts us)(hx:∀ x∈xs,x.lies w∧x.fits)(hq:∀ x∈ts,x.lies w∧x.fits)(hy:∀ y∈ys,y.tame)(hn:n≤1000000) :
 Calls SA 139 #[.agg #[.map (some b1),.map (some b2)],.agg #[.map (some c1),.map (some c2)]] w (Dl n (xs.map Ev.c) (ts.map Ev.c) ys w):=by
 have hb1:=hf.ev.lt
 have hb2:=hf.cm.lt
 have hc1:=ht.ev.lt
 have Rz:=h_ (fun wx (h:SK (w.heap.size+2) ((w.alloc (.cells #[.map (some b1),.map (some b2)] 148)).alloc (.cells #[.map (some c1),.map (some c2)] 148)) wx)=>sd w #[.map (some b1),.map (some b2)] #[.map (some c1),.map (some c2)] 148 148 wx h)
 have HB:=h_ (fun wx (h:SK (w.heap.size+2) ((w.alloc (.cells #[.map (some b1),.map (some b2)] 148)).alloc (.cells #[.map (some c1),.map (some c2)] 148)) wx)=>(show SK w.heap.size w wx from(Lm w _ _).trans (h.mono (by omega))))
 have hsz:((w.alloc (.cells #[.map (some b1),.map (some b2)] 148)).alloc (.cells #[.map (some c1),.map (some c2)] 148)).heap.size=w.heap.size+2:=by simp
 have HQ:=h_ (fun(w':Sv) (k:Nat) (hm:VMap w' (w.heap.size+2) k (fI (xs.map Ev.c) (ts.map Ev.c) ys)) (hk:k≤n) (hb:SK w.heap.size w w')=>(show Dl n (xs.map Ev.c) (ts.map Ev.c) ys w (.returned (.map (some (w.heap.size+2)))) w' from⟨_,rfl,hm.mono hk,by omega,hb⟩))
 have HMF:=h_ (fun(w1:Sv) (h:SK w.heap.size w w1)=>hf.later h)
 have HMT:=h_ (fun(w1:Sv) (h:SK w.heap.size w w1)=>ht.later h)
 have HPX:=h_ (fun(z:Int) (w1:Sv) (h:SK w.heap.size w w1)=>(show((xs.find? fun x=>x.id==z).getD aJ).lies w1∧((xs.find? fun x=>x.id==z).getD aJ).fits from by
  cases bn:xs.find? (fun x=>x.id==z) with
  | none=>exact⟨iA _,mI⟩
  | some x=>exact⟨Ev.keeps _ _ _ h (hx x (SD bn)).1,(hx x (SD bn)).2⟩))
 have P8:=h_ (fun(z:Int) (w1:Sv) (h:SK w.heap.size w w1)=>(show((ts.find? fun x=>x.id==z).getD aJ).lies w1∧((ts.find? fun x=>x.id==z).getD aJ).fits from by
  cases bn:ts.find? (fun x=>x.id==z) with
  | none=>exact⟨iA _,mI⟩
  | some x=>exact⟨Ev.keeps _ _ _ h (hq x (SD bn)).1,(hq x (SD bn)).2⟩))
 have HY:=h_ hy
 have HV0:=h_ (fun z (h:(bp ys z).isSome=false)=>Bz (xs:=xs.map Ev.c) (ts:=ts.map Ev.c) h)
 have HCV:=h_ (show ∀ (z:Int) (v:Sx),bp ys z=some v→∃ c:Cm,c.id=z∧c.tame∧v=.agg c.enc.toArray∧fI (xs.map Ev.c) (ts.map Ev.c) ys z=some (.agg (lC (xs.map Ev.c) (ts.map Ev.c) c).enc.toArray) from fun z v h=>by
  unfold bp at h
  unfold fI
  cases bn:ys.find? (fun y=>y.id==z) with
  | none=>rw [bn] at h;cases h
  | some c =>
    rw [bn] at h
    refine⟨c,by simpa using List.find?_some bn,HY.out c (SD bn),(SS h).symm,rfl⟩)
 have HMV:=h_ (show ∀ c:Cm,lC (xs.map Ev.c) (ts.map Ev.c) c=if c.lost=true then c else if bm ts c.ev=true then mY c (runes (kV (some ((xs.find? fun x=>x.id==c.ev).getD aJ).c))) (runes (kV (some ((ts.find? fun x=>x.id==c.ev).getD aJ).c))) else { c with frm:=0,til:=0,lost:=true } from fun c=>by
  unfold lC bm
  rw [lS,lS,Er]
  cases ts.find? (fun x=>x.id==c.ev)<;>rfl)
 generalize Dl n (xs.map Ev.c) (ts.map Ev.c) ys w=Q at *
 generalize fI (xs.map Ev.c) (ts.map Ev.c) ys=mv at *
 generalize lC (xs.map Ev.c) (ts.map Ev.c)=mvf at *
 have hmm:=@run_makeMap SA
 clear hf ht hx hq hy HY
 generalize hW0:((w.alloc (.cells #[.map (some b1),.map (some b2)] 148)).alloc (.cells #[.map (some c1),.map (some c2)] 148))=W0 at *
 have HW0:=h_ hW0
 have bu:=h_ hsz
 have hb0:SK (w.heap.size+2) W0 W0:=SM _ _
 have Gc:=VMap.made W0
 rw [hsz] at Gc
 have HMD:=h_ Gc
 have BR:SK (w.heap.size+2) W0 (W0.alloc (.map #[] 0)):=hb0.alloc (by omega) _
 have HA:=h_ BR
 have fA:∀ j,(W0.alloc (.map #[] 0)).cell? ⟨w.heap.size,j,none⟩=_:=fun j=>Sw _ _ j _ 148 (0,0) (Rz.out _ BR).1
 have Qf:=h_ ((HMF.out _ (HB.out _ BR)).cm)
 have hsA:(W0.alloc (.map #[] 0)).heap.size=w.heap.size+3:=by rw [Sv.size_alloc,hsz]
 have KS:=h_ hsA
 clear hW0 hb0 Gc BR hsA
 go_enter Tryz.func139,Tryz.ntmps139
 go_upto_region 1 with fail
 rw [HW0.out]
 go_wp2_with (at_range;refine fO _ rfl _ 146 52 rfl SB b2 n (bp ys) rfl Qf.out ?_;intro w0 cnt0 hr0 hcn hg0 hs0)
 go_frame
 have Cw:=h_ (show SK (w.heap.size+2) W0 w0 from HA.out.grown hg0 (by rw [KS.out];omega) (fun k h=>by cases h))
 have Ic:=h_ (show VMap w0 (w.heap.size+2) 0 (fun _=>none) from HMD.out.kept (hg0.block _ (by rw [KS.out];omega) (by simp)))
 have ll:=h_ hr0
 have OG:w0.heap.size=w.heap.size+4:=by rw [hs0,KS.out]
 have Dv:=h_ OG
 rw [KS.out] at ll
 clear hr0 hg0 hs0 OG fA hmm HMD HA Qf
 rw [KS.out]
 go_loopw [6] (fun v wr=>∃ left cnt k,VRange wr b2 (w.heap.size+3) n (bp ys) left cnt∧VMap wr (w.heap.size+2) k (fun z=>if left z=true then none else mv z)∧k+cnt≤n∧SK (w.heap.size+2) W0 wr) (fun _ wr=>wr.rangeLeft b2 (w.heap.size+3))
 case atStart =>
  refine⟨_,cnt0,0,ll.out,?_,by omega,Cw.out⟩
  have e:(fun z=>if (bp ys z).isSome=true then none else mv z)=fun _=>none:=by
   funext z
   split
   · rfl
   · rename_i h
     exact HV0.out z (by simpa using h)
  rw [e]
  exact Ic.out
 case round =>
  obtain⟨left,cnt,k,hR,hM,hkn,hB⟩:=hrel
  have HR:=h_ hR
  have HM:=h_ hM
  have kI:=h_ hB
  have H9:w.heap.size+2≤wr.heap.size:=by have:=hB.size;rw [hsz] at this;exact this
  clear hR hM hB
  go_wp2_with (at_next;refine gQ _ rfl _ rfl b2 (w.heap.size+3) n (bp ys) left cnt rfl HR.out ?done ?more)
  case done =>
   intro hc0 hl0
   have HF:=h_ (HQ.out wr k (by
    have e:(fun z=>if left z=true then none else mv z)=mv:=by
     funext z
     rw [hl0 z]
     rfl
    have:=HM.out
    rw [e] at this
    exact this) (by omega) (HB.out _ kI.out))
   go_wp2_with fail
   exact HF.out
  case more =>
   intro key v w1 cnt1 hkey hlx hfx Gs hlt1 hg1 hs1 hen
   obtain⟨c,rfl,F_,rfl,OM⟩:=HCV.out _ _ hfx
   have OF:w.heap.size+2≤w1.heap.size:=by omega
   have HB1:=h_ (show SK (w.heap.size+2) W0 w1 from kI.out.grown hg1 H9 (fun j h=>by cases h;omega))
   have Qe:=h_ (show VMap w1 (w.heap.size+2) k (fun z=>if left z=true then none else mv z) from HM.out.kept (hg1.block _ HM.out.lt (by simp)))
   have HR1:=h_ Gs
   have HKEY:=h_ OM
   have iY:=h_ hlt1
   have EN:=h_ HR.out.left_eq
   have C5:=HMV.out c
   have O7:i64 c.ev:=F_.1.2.1
   have M4:=h_ F_
   obtain⟨q,hlq,hqe⟩:=qO (HMT.out _ (HB.out _ HB1.out)).ev O7
   obtain⟨p,hpe⟩:∃ p,p=(xs.find? fun x=>x.id==c.ev).getD aJ:=⟨_,rfl⟩
   rw [←hqe,←hpe] at C5
   have hlk:∀ w',w'.heap[b1]? =w1.heap[b1]?→(S7 145 (.map (some b1)) (.int .i64 c.ev) false).run SA w'=.ok (.agg p.enc.toArray) w':=fun w' hw=>by
    have:=((HMF.out _ (HB.out _ HB1.out)).ev.kept hw).look1 SC (EZ _) O7
    rw [this,hpe]
    unfold bA
    cases xs.find? fun x=>x.id==c.ev<;>rfl
   have tJ:=h_ (fun(w':Sv) (h:SK w.heap.size w w')=>(show p.lies w'∧p.fits from hpe▸HPX.out c.ev w' h))
   have RD:=h_ (fun(w':Sv) (h:SK w.heap.size w w')=>(show q.lies w'∧q.fits from hqe▸P8.out c.ev w' h))
   generalize hhas:bm ts c.ev=has at *
   obtain⟨M,Kz⟩:∃ M,M=mvf c:=⟨_,rfl⟩
   rw [←Kz] at C5 HKEY
   have zV:=h_ C5
   have Qk:=h_ hlq
   clear Gs hg1 hfx hlt1 OM hqe hpe hhas Kz C5 F_ hlq
   obtain⟨cid,cev,cfrm,ctil,cau,ctx,cdn,clo⟩:=c
   obtain⟨pid,pin,pout,preg,pkind,psp,pxa,pxc,pxr⟩:=p
   obtain⟨qid,qin,qout,qreg,qkind,qsp,qxa,qxc,qxr⟩:=q
   simp only [Cm.enc,Ev.enc] at hen hlk Qk HKEY
   simp only at zV tJ RD M4 EN
   have fb:=fun(wx:Sv) (h:SK (w.heap.size+2) W0 wx) j=>Sw _ _ j _ 148 (0,0) (Rz.out wx h).1
   have fc:=fun(wx:Sv) (h:SK (w.heap.size+2) W0 wx) j=>Sw _ _ j _ 148 (0,0) (Rz.out wx h).2
   have MA:=HB1.out
   have hbA1:∀ o,SK (w.heap.size+2) W0 (w1.alloc o):=fun o=>MA.alloc OF o
   have hb1x:b1<w1.heap.size:=by omega
   have hc1x:c1<w1.heap.size:=by omega
   have hkc:∀ o,(w1.alloc o).heap[c1]? =w1.heap[c1]?:=fun o=>SL _ _ _ hc1x
   go_upto_region 6 with(at_lookup;refine aa _ rfl _ _ _ _ rfl _ _ _ rfl rfl (Qk.out _ (hkc _)) ?_)
   have hbx:=sd w1 (#[SU .i64 cid,.int .i64 cev,.int .i64 cfrm,.int .i64 ctil,.string cau,.string ctx,.bool cdn,.bool clo]) (#[SU .i64 qid,.int .i64 qin,.int .i64 qout,.string qreg,.int .u8 qkind,.string qsp,.slice qxa qxr.length qxc]) 52 50 _ (SM _ ((w1.alloc (.cells #[SU .i64 cid,.int .i64 cev,.int .i64 cfrm,.int .i64 ctil,.string cau,.string ctx,.bool cdn,.bool clo] 52)).alloc (.cells #[SU .i64 qid,.int .i64 qin,.int .i64 qout,.string qreg,.int .u8 qkind,.string qsp,.slice qxa qxr.length qxc] 50)))
   have hB5:SK (w.heap.size+2) W0 ((w1.alloc (.cells #[SU .i64 cid,.int .i64 cev,.int .i64 cfrm,.int .i64 ctil,.string cau,.string ctx,.bool cdn,.bool clo] 52)).alloc (.cells #[SU .i64 qid,.int .i64 qin,.int .i64 qout,.string qreg,.int .u8 qkind,.string qsp,.slice qxa qxr.length qxc] 50)):=(MA.alloc OF _).alloc (by simp;omega) _
   have hsz5:((w1.alloc (.cells #[SU .i64 cid,.int .i64 cev,.int .i64 cfrm,.int .i64 ctil,.string cau,.string ctx,.bool cdn,.bool clo] 52)).alloc (.cells #[SU .i64 qid,.int .i64 qin,.int .i64 qout,.string qreg,.int .u8 qkind,.string qsp,.slice qxa qxr.length qxc] 50)).heap.size=wr.heap.size+2:=by simp [hs1]
   have hk5:∀ b,b<w1.heap.size→((w1.alloc (.cells #[SU .i64 cid,.int .i64 cev,.int .i64 cfrm,.int .i64 ctil,.string cau,.string ctx,.bool cdn,.bool clo] 52)).alloc (.cells #[SU .i64 qid,.int .i64 qin,.int .i64 qout,.string qreg,.int .u8 qkind,.string qsp,.slice qxa qxr.length qxc] 50)).heap[b]? =w1.heap[b]?:=fun b hb=>(Lm w1 _ _).block b hb
   rw [hs1] at hbx
   generalize hW5:((w1.alloc (.cells #[SU .i64 cid,.int .i64 cev,.int .i64 cfrm,.int .i64 ctil,.string cau,.string ctx,.bool cdn,.bool clo] 52)).alloc (.cells #[SU .i64 qid,.int .i64 qin,.int .i64 qout,.string qreg,.int .u8 qkind,.string qsp,.slice qxa qxr.length qxc] 50))=W5 at *
   have mf:=h_ hbx
   have uS:=h_ hB5
   have KU:=h_ hk5
   have e0:∀ w',SK W5.heap.size W5 w'→∀ j,w'.cell? ⟨wr.heap.size,j,none⟩=_:=fun w' h j=>Sw _ _ j _ 52 (0,0) ((h.block _ (by omega)).trans mf.out.1)
   have e1:∀ w',SK W5.heap.size W5 w'→∀ j,w'.cell? ⟨wr.heap.size+1,j,none⟩=_:=fun w' h j=>Sw _ _ j _ 50 (0,0) ((h.block _ (by omega)).trans mf.out.2)
   have z0:∀ w',SK W5.heap.size W5 w'→∀ j,w'.frozen? ⟨wr.heap.size,j,none⟩=false:=fun w' h j=>by simp [SX,(h.block wr.heap.size (by omega)).trans mf.out.1]
   have Ds:=h_ (fun(w2 w3:Sv) (h:SK W5.heap.size W5 w2) (h3:SK w2.heap.size w2 w3)=>(h.trans (h3.mono h.size):SK W5.heap.size W5 w3))
   have Kq:SK W5.heap.size W5 W5:=SM _ _
   have f0:=e0 W5 Kq
   have f1:=e1 W5 Kq
   have g0:=z0 W5 Kq
   have ff:=fun j=>fb W5 hB5 j
   clear hbx hB5 hk5 hW5 hlx hen hkc hbA1 MA fc
   obtain⟨Bt,xO⟩:∃ Bt,Bt=(!clo&&has):=⟨_,rfl⟩
   have DB:=h_ xO
   clear xO
   go_cut [32] (fun fV wx=>fV=.bool Bt∧W5=wx)
   case first =>
    clear hlk
    cases clo<;>cases has<;>(have xO:=DB.out;simp at xO;subst xO;clear DB;go_wp2_with fail;go_meet;exact⟨rfl,rfl⟩)
   case rest =>
    obtain⟨rfl,rfl⟩:=hcut
    go_upto_if 32 with fail
    go_cut [] (fun wx=>wx.heap[wr.heap.size]? =some (.cells M.enc.toArray 52 (0,0))∧Kept (fun b=>b=wr.heap.size) W5 wx)
    case first =>
     cases clo with
     | true =>
       obtain rfl:Bt=false:=by have:=DB.out;simpa using this
       clear DB
       have HE:=h_ (show W5.heap[wr.heap.size]? =some (.cells M.enc.toArray 52 (0,0)) from by rw [zV.out];exact mf.out.1)
       clear hlk e0 e1 z0 fb
       go_wp2_with fail
       go_meet
       exact⟨HE.out,Kept.refl _ _⟩
     | false =>
       cases has with
       | false =>
         obtain rfl:Bt=false:=by have:=DB.out;simpa using this
         clear DB
         have HE:=h_ (show M=⟨cid,cev,0,0,cau,ctx,cdn,true⟩ from zV.out)
         clear hlk e0 e1 z0 fb
         go_wp2_with fail
         go_meet
         refine⟨?_,(((Kept.refl (fun b=>b=wr.heap.size) W5).setAt _ _).setAt _ _).setAt _ _⟩
         rw [HE.out]
         exact IX mf.out.1
       | true =>
         obtain rfl:Bt=true:=by have:=DB.out;simpa using this
         clear DB
         have ML:∀ w',Kept (fun b=>b=wr.heap.size) W5 w'→SK w.heap.size w w':=fun w' h=>(HB.out _ uS.out).trans ((h.below (B:=wr.heap.size) (by omega) (fun k hk e=>by omega)).mono (by omega))
         have RG:=h_ (fun(w':Sv) (h:Kept (fun b=>b=wr.heap.size) W5 w')=>pj ⟨pid,pin,pout,preg,pkind,psp,pxa,pxc,pxr⟩ w' (tJ.out w' (ML w' h)).1 (tJ.out w' (ML w' h)).2)
         have Ct:=h_ (fun(w':Sv) (h:Kept (fun b=>b=wr.heap.size) W5 w')=>pj ⟨qid,qin,qout,qreg,qkind,qsp,qxa,qxc,qxr⟩ w' (RD.out w' (ML w' h)).1 (RD.out w' (ML w' h)).2)
         have HZ1:=oJ (tJ.out _ (ML _ (Kept.refl _ _))).2
         have HZ2:=oJ (RD.out _ (ML _ (Kept.refl _ _))).2
         generalize kV (some (Ev.c ⟨pid,pin,pout,preg,pkind,psp,pxa,pxc,pxr⟩))=S1 at *
         generalize kV (some (Ev.c ⟨qid,qin,qout,qreg,qkind,qsp,qxa,qxc,qxr⟩))=S2 at *
         have Qs:=h_ (fun(w':Sv) (_:Kept (fun b=>b=wr.heap.size) W5 w')=>zw ⟨cid,cev,cfrm,ctil,cau,ctx,cdn,false⟩ S1 S2 w' rfl (M4.out.2 rfl).1 (M4.out.2 rfl).2 HZ1 HZ2)
         have HE:=h_ (show M=mY ⟨cid,cev,cfrm,ctil,cau,ctx,cdn,false⟩ (runes S1) (runes S2) from zV.out)
         generalize mY ⟨cid,cev,cfrm,ctil,cau,ctx,cdn,false⟩ (runes S1) (runes S2)=F at *
         obtain⟨fid,fev,ffrm,ftil,fau,ftx,fdn,flo⟩:=F
         simp only [Cm.enc] at Qs
         simp only [Ev.enc] at RG Ct
         have hd5:SK W5.heap.size W5 W5.drew:=Kq.drew
         have hlk2:∀ w',Kept (fun b=>b=wr.heap.size) W5 w'→(S7 145 (.map (some b1)) (.int .i64 cev) false).run SA w'=.ok (.agg #[SU .i64 pid,.int .i64 pin,.int .i64 pout,.string preg,.int .u8 pkind,.string psp,.slice pxa pxr.length pxc]) w':=fun w' h=>hlk w' ((h.block b1 (by omega) (by omega)).trans (KU.out b1 hb1x))
         have kd:∀ w',Kept (fun b=>b=wr.heap.size) W5 w'→∀ j,w'.cell? ⟨w.heap.size,j,none⟩=_:=fun w' h j=>Sw _ _ j _ 148 (0,0) ((h.block _ (by omega) (by omega)).trans (Rz.out W5 uS.out).1)
         have kq:∀ w',Kept (fun b=>b=wr.heap.size) W5 w'→∀ j,w'.cell? ⟨wr.heap.size+1,j,none⟩=_:=fun w' h j=>Sw _ _ j _ 50 (0,0) ((h.block _ (by omega) (by omega)).trans mf.out.2)
         clear hlk HZ1 HZ2 ML
         go_upto_region 7 with fail
         have E0:=h_ e0
         have Z0:=h_ z0
         clear f0 f1 g0 ff fb e1
         refine wp_region_held_drew (S:=fun w'=>Kept (fun b=>b=wr.heap.size) W5 w') (by kernel_rfl) (Kept.of_below hd5) (fun _=>?_)
         try simp only [Act.put,List.getElem_toArray,List.getElem_cons_zero,List.getElem_cons_succ,SF,SH,SI,Array.toArray_toList]
         refine nN 1 (.pointer (some ⟨w.heap.size,0,none⟩)) (Kept.of_below hd5) ?_
         refine nN 2 (.map (some b1)) (Kept.of_below hd5) ?_
         refine nN 3 (.pointer (some ⟨wr.heap.size,1,none⟩)) (Kept.of_below hd5) ?_
         refine nN 7 (.agg #[SU .i64 qid,.int .i64 qin,.int .i64 qout,.string qreg,.int .u8 qkind,.string qsp,.slice qxa qxr.length qxc]) (Kept.of_below hd5) ?_
         refine eZ 0 4 (fun K hK=>?_) (fun K hK=>?_)
         · skip
           have q_:=e0 _ hd5
           go_simp
           refine goOn hK (Kept.of_below hd5) ?_
           clear hK q_
           refine aq 4 (fun K hK=>?_)
           have q_:=e0 _ hd5
           go_simp
           refine goOn hK (Kept.of_below hd5) ?_
           clear hK q_
           refine nN 5 (.agg #[SU .i64 pid,.int .i64 pin,.int .i64 pout,.string preg,.int .u8 pkind,.string psp,.slice pxa pxr.length pxc]) (Kept.of_below hd5) ?_
           refine aq 6 (fun K hK=>?_)
           go_simp
           refine(RG.out _ (Kept.of_below hd5)).mono ?_
           rintro e v1 ⟨rfl,ai⟩
           have hv1:=Ds.out _ _ hd5 ai
           clear ai
           go_wp2_with fail
           refine goOn hK (Kept.of_below hv1) ?_
           clear hK
           refine aq 8 (fun K hK=>?_)
           go_simp
           refine(Ct.out _ (Kept.of_below hv1)).mono ?_
           rintro e v2 ⟨rfl,ai⟩
           have hv2:=Ds.out _ _ hv1 ai
           clear ai
           go_wp2_with fail
           refine goOn hK (Kept.of_below hv2) ?_
           clear hK
           refine aq 9 (fun K hK=>?_)
           go_simp
           refine(Qs.out _ (Kept.of_below hv2)).mono ?_
           rintro e v3 ⟨rfl,ai⟩
           have hv3:=Ds.out _ _ hv2 ai
           clear ai
           go_wp2_with fail
           refine goOn hK (Kept.of_below hv3) ?_
           clear hK
           refine aq 10 (fun K hK=>?_)
           have q_:=e0 _ hv3
           have z_:=z0 _ hv3
           go_simp
           refine goOn hK (((((((((Kept.of_below hv3).setAt _ _).setAt _ _).setAt _ _).setAt _ _).setAt _ _).setAt _ _).setAt _ _).setAt _ _) ?_
           clear hK q_ z_
           refine Sy (by kernel_rfl) ?_ _
           go_wp2_with fail
           go_meet
           refine⟨?_,(((((((((Kept.of_below hv3).setAt _ _).setAt _ _).setAt _ _).setAt _ _).setAt _ _).setAt _ _).setAt _ _).setAt _ _)⟩
           rw [HE.out]
           exact Dc ((hv3.block _ (by omega)).trans mf.out.1)
         · skip
           have q_:=e0 _ hd5
           go_simp
           refine goOn hK (Kept.of_below hd5) ?_
           clear hK q_
           refine nN 5 (.agg #[SU .i64 pid,.int .i64 pin,.int .i64 pout,.string preg,.int .u8 pkind,.string psp,.slice pxa pxr.length pxc]) (Kept.of_below hd5) ?_
           refine eZ 0 6 (fun K hK=>?_) (fun K hK=>?_)
           · skip
             have q_:=e0 _ hd5
             go_simp
             refine goOn hK (Kept.of_below hd5) ?_
             clear hK q_
             refine aq 6 (fun K hK=>?_)
             go_simp
             refine(RG.out _ (Kept.of_below hd5)).mono ?_
             rintro e v1 ⟨rfl,ai⟩
             have hv1:=Ds.out _ _ hd5 ai
             clear ai
             go_wp2_with fail
             refine goOn hK (Kept.of_below hv1) ?_
             clear hK
             refine aq 8 (fun K hK=>?_)
             go_simp
             refine(Ct.out _ (Kept.of_below hv1)).mono ?_
             rintro e v2 ⟨rfl,ai⟩
             have hv2:=Ds.out _ _ hv1 ai
             clear ai
             go_wp2_with fail
             refine goOn hK (Kept.of_below hv2) ?_
             clear hK
             refine aq 9 (fun K hK=>?_)
             go_simp
             refine(Qs.out _ (Kept.of_below hv2)).mono ?_
             rintro e v3 ⟨rfl,ai⟩
             have hv3:=Ds.out _ _ hv2 ai
             clear ai
             go_wp2_with fail
             refine goOn hK (Kept.of_below hv3) ?_
             clear hK
             refine aq 10 (fun K hK=>?_)
             have q_:=e0 _ hv3
             have z_:=z0 _ hv3
             go_simp
             refine goOn hK (((((((((Kept.of_below hv3).setAt _ _).setAt _ _).setAt _ _).setAt _ _).setAt _ _).setAt _ _).setAt _ _).setAt _ _) ?_
             clear hK q_ z_
             refine Sy (by kernel_rfl) ?_ _
             go_wp2_with fail
             go_meet
             refine⟨?_,(((((((((Kept.of_below hv3).setAt _ _).setAt _ _).setAt _ _).setAt _ _).setAt _ _).setAt _ _).setAt _ _).setAt _ _)⟩
             rw [HE.out]
             exact Dc ((hv3.block _ (by omega)).trans mf.out.1)
           · skip
             go_simp
             refine(RG.out _ (Kept.of_below hd5)).mono ?_
             rintro e v1 ⟨rfl,ai⟩
             have hv1:=Ds.out _ _ hd5 ai
             clear ai
             go_wp2_with fail
             refine goOn hK (Kept.of_below hv1) ?_
             clear hK
             refine eZ 0 8 (fun K hK=>?_) (fun K hK=>?_)
             · skip
               have q_:=e0 _ hv1
               go_simp
               refine goOn hK (Kept.of_below hv1) ?_
               clear hK q_
               refine aq 8 (fun K hK=>?_)
               go_simp
               refine(Ct.out _ (Kept.of_below hv1)).mono ?_
               rintro e v2 ⟨rfl,ai⟩
               have hv2:=Ds.out _ _ hv1 ai
               clear ai
               go_wp2_with fail
               refine goOn hK (Kept.of_below hv2) ?_
               clear hK
               refine aq 9 (fun K hK=>?_)
               go_simp
               refine(Qs.out _ (Kept.of_below hv2)).mono ?_
               rintro e v3 ⟨rfl,ai⟩
               have hv3:=Ds.out _ _ hv2 ai
               clear ai
               go_wp2_with fail
               refine goOn hK (Kept.of_below hv3) ?_
               clear hK
               refine aq 10 (fun K hK=>?_)
               have q_:=e0 _ hv3
               have z_:=z0 _ hv3
               go_simp
               refine goOn hK (((((((((Kept.of_below hv3).setAt _ _).setAt _ _).setAt _ _).setAt _ _).setAt _ _).setAt _ _).setAt _ _).setAt _ _) ?_
               clear hK q_ z_
               refine Sy (by kernel_rfl) ?_ _
               go_wp2_with fail
               go_meet
               refine⟨?_,(((((((((Kept.of_below hv3).setAt _ _).setAt _ _).setAt _ _).setAt _ _).setAt _ _).setAt _ _).setAt _ _).setAt _ _)⟩
               rw [HE.out]
               exact Dc ((hv3.block _ (by omega)).trans mf.out.1)
             · skip
               go_simp
               refine(Ct.out _ (Kept.of_below hv1)).mono ?_
               rintro e v2 ⟨rfl,ai⟩
               have hv2:=Ds.out _ _ hv1 ai
               clear ai
               go_wp2_with fail
               refine goOn hK (Kept.of_below hv2) ?_
               clear hK
               refine aq 0 (fun K hK=>?_)
               have q_:=e0 _ hv2
               go_simp
               refine goOn hK (Kept.of_below hv2) ?_
               clear hK q_
               refine aq 9 (fun K hK=>?_)
               go_simp
               refine(Qs.out _ (Kept.of_below hv2)).mono ?_
               rintro e v3 ⟨rfl,ai⟩
               have hv3:=Ds.out _ _ hv2 ai
               clear ai
               go_wp2_with fail
               refine goOn hK (Kept.of_below hv3) ?_
               clear hK
               refine aq 10 (fun K hK=>?_)
               have q_:=e0 _ hv3
               have z_:=z0 _ hv3
               go_simp
               refine goOn hK (((((((((Kept.of_below hv3).setAt _ _).setAt _ _).setAt _ _).setAt _ _).setAt _ _).setAt _ _).setAt _ _).setAt _ _) ?_
               clear hK q_ z_
               refine Sy (by kernel_rfl) ?_ _
               go_wp2_with fail
               go_meet
               refine⟨?_,(((((((((Kept.of_below hv3).setAt _ _).setAt _ _).setAt _ _).setAt _ _).setAt _ _).setAt _ _).setAt _ _).setAt _ _)⟩
               rw [HE.out]
               exact Dc ((hv3.block _ (by omega)).trans mf.out.1)
    case rest =>
     obtain⟨hrow,hkp⟩:=hcut
     obtain⟨mid,mev,mfrm,mtil,mau,mtx,mdn,mlo⟩:=M
     simp only [Cm.enc] at hrow
     have hbk:∀ b,b<w1.heap.size→wc.heap[b]? =w1.heap[b]?:=fun b hb=>(hkp.block b (by omega) (by omega)).trans (KU.out b hb)
     have Pk:=Qe.out.lt
     have MJ:=HR1.out.lt
     have HMc:=h_ (Qe.out.kept (hbk _ Pk))
     have HRc:=h_ (HR1.out.kept (hbk _ MJ.2.1) (hbk _ MJ.1))
     have hcB:SK (w.heap.size+2) W0 wc:=uS.out.trans ((hkp.below (B:=wr.heap.size) (by omega) (fun k hk e=>by omega)).mono H9)
     have HBc:=h_ hcB
     have hszc:w.heap.size+2≤wc.heap.size:=SO (SO H9 (by omega)) hkp.size
     have n0:∀ j,wc.cell? ⟨wr.heap.size,j,none⟩=_:=fun j=>Sw _ _ j _ 52 (0,0) hrow
     have hkn:k<maxLen:=by unfold maxLen;omega
     clear hrow hkp hbk Pk MJ hcB e0 e1 z0 f0 f1 g0 ff fb hlk zV
     go_wp2_with (at_mapUpdate;refine iQ _ rfl _ _ _ 146 52 rfl SB (w.heap.size+2) k _ rfl HMc.out hkn _ rfl hkey _ rfl ?_;intro w9 h9 Rq)
     have P5:=h_ (show VRange w9 b2 (w.heap.size+3) n (bp ys) (fun z=>left z&&!(z==cid)) cnt1 from HRc.out.kept (Rq.block _ HRc.out.lt.2.1 (by simp;omega)) (Rq.block _ HRc.out.lt.1 (by simp)))
     have JU:=h_ h9
     have HB9:=h_ (HBc.out.grown Rq hszc (fun j h=>by cases h;omega))
     clear h9 Rq
     go_wp2_with fail
     go_roundw
     case rel =>
      refine⟨_,cnt1,P5.out,k+1,?_,by have:=iY.out;omega,HB9.out⟩
      have e:(fun z=>if (left z&&!(z==cid))=true then none else mv z)=(fun y=>if y=cid then some (Sx.agg #[SU .i64 mid,.int .i64 mev,.int .i64 mfrm,.int .i64 mtil,.string mau,.string mtx,.bool mdn,.bool mlo]) else if left y=true then none else mv y):=by
       funext z
       by_cases hz:z=cid
       · subst hz
         rw [if_neg (by simp),if_pos rfl]
         exact HKEY.out
       · rw [if_neg hz]
         have:(z==cid)=false:=by simpa using hz
         rw [this]
         simp
      rw [e]
      exact JU.out
     case measure=>rw [P5.out.left_eq,EN.out];exact iY.out
end Go.Proofs.YtnlnmbcaongehaaGreatDoor
