/- The contract of merge.finderOf: two maps that hold a document's events and comments by their IDs. (printed by gen_mgfinder.py) The contract of merge.adds: whether another document has an event or a comment with an ID that is not there. merge.ids: the keys of three maps, ascending, each once. (printed by gen_mgids.py) -/
import Derived.Test.YtnlnmbcaongehaaGreatDoorM11
set_option linter.unusedVariables false
set_option linter.unusedSimpArgs false
set_option maxRecDepth 100000
set_option maxHeartbeats 12800000
open Go.Lib renaming hid→h_
open Go renaming World→fm,Value→fp,cell_of_row→ft,heap_alloc_last→fu
open List renaming find?_append→fw,length_mergeSort→fB,mem_of_getElem?→fC,take_length→fD
open Go.RowKit renaming Below→fE
open Go.RowKit.Below renaming heap_alloc→fF,refl→fG
open Nat renaming le_refl→fH,le_trans→fI,mul_le_mul_right→fJ,lt_of_lt_of_le→fK,lt_irrefl→fL,add_zero→fM,add_mul→fN
open Option.some renaming inj→fO
open Go.Value renaming int→fP,string→fQ
open Go.World renaming cell?_alloc_lt→fR
open Option renaming isSome_some→fS,isSome_none→fT,getD_some→fU,getD_none→fV
open Go.Lib renaming compact→fW
namespace Go.Proofs.YtnlnmbcaongehaaGreatDoor
open Go.RowKit
def aM (xs:List Ev)(z:Int):Option fp:=(xs.find? fun x=>x.id==z).map fun x=>.agg x.enc.toArray
def aK (xs:List Cm)(z:Int):Option fp:=(xs.find? fun x=>x.id==z).map fun x=>.agg x.enc.toArray
theorem zh0 (w:fm):(zeroValue 50).run Tryz.prog w=.ok (.agg #[.int .i64 0,.int .i64 0,.int .i64 0,.string ⟨#[]⟩,.int .u8 0,.string ⟨#[]⟩,.slice none 0 0]) w:=by kernel_rfl
theorem zgs (w:fm):(zeroValue 52).run Tryz.prog w=.ok (.agg #[.int .i64 0,.int .i64 0,.int .i64 0,.int .i64 0,.string ⟨#[]⟩,.string ⟨#[]⟩,.bool false,.bool false]) w:=by kernel_rfl
theorem zf9 (xs:List Ev)(z:Int):aM xs z=none∨∃ y,aM xs z=some (.agg (Ev.enc y).toArray):=by
 unfold aM
 cases xs.find? fun x=>x.id==z with
 | none=>exact .inl rfl
 | some y=>exact .inr ⟨y,rfl⟩
theorem zhK {xs:List Ev} {k:Nat} {x:Ev} (h:xs[k]? =some x)(hn:aM (xs.take k) x.id=none):(fun y=>if y=x.id then some (.agg (Ev.enc x).toArray) else aM (xs.take k) y)=aM (xs.take (k+1)):=by
 funext y
 unfold aM at *
 rw [cj xs k x h,fw]
 have hn':(xs.take k).find? (fun z=>z.id==x.id)=none:=by simpa using hn
 by_cases hy:y=x.id
 · subst hy
   rw [if_pos rfl,hn']
   simp
 · rw [if_neg hy]
   have:[x].find? (fun z=>z.id==y)=none:=by simp;omega
   rw [this]
   cases (xs.take k).find? (fun z=>z.id==y)<;>rfl
theorem zhJ {xs:List Ev} {k:Nat} {x:Ev} {v:fp} (h:xs[k]? =some x)(hn:aM (xs.take k) x.id=some v):aM (xs.take k)=aM (xs.take (k+1)):=by
 funext y
 unfold aM at *
 rw [cj xs k x h,fw]
 by_cases hy:y=x.id
 · subst hy
   cases he:(xs.take k).find? (fun z=>z.id==x.id) with
   | none=>rw [he] at hn;cases hn
   | some _=>rfl
 · have:[x].find? (fun z=>z.id==y)=none:=by simp;omega
   rw [this]
   cases (xs.take k).find? (fun z=>z.id==y)<;>rfl
theorem zgf (xs:List Cm)(z:Int):aK xs z=none∨∃ y,aK xs z=some (.agg (Cm.enc y).toArray):=by
 unfold aK
 cases xs.find? fun x=>x.id==z with
 | none=>exact .inl rfl
 | some y=>exact .inr ⟨y,rfl⟩
theorem zhP {xs:List Cm} {k:Nat} {x:Cm} (h:xs[k]? =some x)(hn:aK (xs.take k) x.id=none):(fun y=>if y=x.id then some (.agg (Cm.enc x).toArray) else aK (xs.take k) y)=aK (xs.take (k+1)):=by
 funext y
 unfold aK at *
 rw [cj xs k x h,fw]
 have hn':(xs.take k).find? (fun z=>z.id==x.id)=none:=by simpa using hn
 by_cases hy:y=x.id
 · subst hy
   rw [if_pos rfl,hn']
   simp
 · rw [if_neg hy]
   have:[x].find? (fun z=>z.id==y)=none:=by simp;omega
   rw [this]
   cases (xs.take k).find? (fun z=>z.id==y)<;>rfl
theorem zhO {xs:List Cm} {k:Nat} {x:Cm} {v:fp} (h:xs[k]? =some x)(hn:aK (xs.take k) x.id=some v):aK (xs.take k)=aK (xs.take (k+1)):=by
 funext y
 unfold aK at *
 rw [cj xs k x h,fw]
 by_cases hy:y=x.id
 · subst hy
   cases he:(xs.take k).find? (fun z=>z.id==x.id) with
   | none=>rw [he] at hn;cases hn
   | some _=>rfl
 · have:[x].find? (fun z=>z.id==y)=none:=by simp;omega
   rw [this]
   cases (xs.take k).find? (fun z=>z.id==y)<;>rfl
def cw (d:Doc)(w:fm)(e:Ending)(w':fm):Prop:=∃ b1 b2,e=.returned (.agg #[.map (some b1),.map (some b2)])∧VMap w' b1 d.evs.length (aM d.evs)∧VMap w' b2 d.cms.length (aK d.cms)∧w.heap.size≤b1∧w.heap.size≤b2∧fE w.heap.size w w'
def FRel (ds:Array fp)(evs:List Ev)(cms:List Cm)(w:fm)(k m:Nat)(wr:fm):Prop :=
 VMap wr (w.heap.size+1+1) k (aM (evs.take k))∧VMap wr (w.heap.size+1+1+1) m (aK (cms.take m))∧wr.heap[w.heap.size]? =some (.cells ds 27 (0,0))∧wr.heap[w.heap.size+1]? =some (.cells #[.map none,.map none] 148 (0,0))∧wr.heap[w.heap.size+1+1+1+1]? =some (.cells #[.map (some (w.heap.size+1+1)),.map (some (w.heap.size+1+1+1))] 148 (0,0))∧fE w.heap.size w wr
section
variable {ds:Array fp} {evs:List Ev} {cms:List Cm} {w wr:fm} {k m:Nat}
theorem FRel.below (h:FRel ds evs cms w k m wr):fE w.heap.size w wr:=h.2.2.2.2.2
theorem FRel.dsAt (h:FRel ds evs cms w k m wr):wr.heap[w.heap.size]? =some (.cells ds 27 (0,0)):=h.2.2.1
theorem FRel.fb (h:FRel ds evs cms w k m wr):wr.heap[w.heap.size+1+1+1+1]? =some (.cells #[.map (some (w.heap.size+1+1)),.map (some (w.heap.size+1+1+1))] 148 (0,0)):=h.2.2.2.2.1
theorem FRel.size (h:FRel ds evs cms w k m wr):w.heap.size+1+1+1+1<wr.heap.size:=(Array.getElem?_eq_some_iff.1 h.fb).1
theorem FRel.start (ds:Array fp)(evs:List Ev)(cms:List Cm)(w:fm):FRel ds evs cms w 0 0 (((((w.alloc (.cells ds 27)).alloc (.cells #[.map none,.map none] 148)).alloc (.map #[] 0)).alloc (.map #[] 0)).alloc (.cells #[.map (some (w.heap.size+1+1)),.map (some (w.heap.size+1+1+1))] 148)):=by
 have e2:((w.alloc (.cells ds 27)).alloc (.cells #[.map none,.map none] 148)).heap.size=w.heap.size+1+1:=by simp
 have e3:(((w.alloc (.cells ds 27)).alloc (.cells #[.map none,.map none] 148)).alloc (.map #[] 0)).heap.size=w.heap.size+1+1+1:=by simp
 refine⟨?_,?_,?_,?_,?_,?_⟩
 · have:=VMap.made ((w.alloc (.cells ds 27)).alloc (.cells #[.map none,.map none] 148))
   rw [e2] at this
   exact(this.below ((fG _ _).alloc (fH _) _) (by simp)).below ((fG _ _).alloc (fH _) _) (by simp)
 · have:=VMap.made (((w.alloc (.cells ds 27)).alloc (.cells #[.map none,.map none] 148)).alloc (.map #[] 0))
   rw [e3] at this
   exact this.below ((fG _ _).alloc (fH _) _) (by simp)
 · rw [fF _ _ _ (by simp;try omega),fF _ _ _ (by simp;try omega),fF _ _ _ (by simp;try omega),fF _ _ _ (by simp)]
   exact fu w _
 · rw [fF _ _ _ (by simp),fF _ _ _ (by simp),fF _ _ _ (by simp)]
   have:=fu (w.alloc (.cells ds 27)) (.cells #[.map none,.map none] 148)
   simpa using this
 · have:=fu ((((w.alloc (.cells ds 27)).alloc (.cells #[.map none,.map none] 148)).alloc (.map #[] 0)).alloc (.map #[] 0)) (.cells #[.map (some (w.heap.size+1+1)),.map (some (w.heap.size+1+1+1))] 148)
   simpa using this
 · exact((((((fG _ _).alloc (fH _) _).alloc (by simp) _).alloc (by simp;try omega) _).alloc (by simp;try omega) _).alloc (by simp;try omega) _)
theorem FRel.evTurn {w3:fm} {k':Nat} (h:FRel ds evs cms w k m wr)(hb:fE wr.heap.size wr w3∨∃ w2,fE wr.heap.size wr w2∧w2.grownBy w3 (some (w.heap.size+1+1)))(h1:VMap w3 (w.heap.size+1+1) k' (aM (evs.take k'))):FRel ds evs cms w k' m w3:=by
 have hs:=h.size
 have hk:∀ b,b<wr.heap.size→b≠w.heap.size+1+1→w3.heap[b]? =wr.heap[b]?:=fun b h1 h2=>by
  rcases hb with hb|⟨w2,hb,hg⟩
  · exact hb.block b h1
  · rw [hg.block b (fK h1 hb.size) (fun e=>h2 (fO e)),hb.block b h1]
 refine⟨h1,h.2.1.kept (hk _ h.2.1.lt (by omega)),(hk _ (by omega) (by omega)).trans h.2.2.1,(hk _ (by omega) (by omega)).trans h.2.2.2.1,(hk _ (by omega) (by omega)).trans h.fb,?_⟩
 rcases hb with hb|⟨w2,hb,hg⟩
 · exact h.below.trans (hb.mono (by omega))
 · exact(h.below.trans (hb.mono (by omega))).grown hg (by have:=hb.size;omega) (fun j hj=>by have:=fO hj;omega)
theorem FRel.cmTurn {w3:fm} {m':Nat} (h:FRel ds evs cms w k m wr)(hb:fE wr.heap.size wr w3∨∃ w2,fE wr.heap.size wr w2∧w2.grownBy w3 (some (w.heap.size+1+1+1)))(h1:VMap w3 (w.heap.size+1+1+1) m' (aK (cms.take m'))):FRel ds evs cms w k m' w3:=by
 have hs:=h.size
 have hk:∀ b,b<wr.heap.size→b≠w.heap.size+1+1+1→w3.heap[b]? =wr.heap[b]?:=fun b h1 h2=>by
  rcases hb with hb|⟨w2,hb,hg⟩
  · exact hb.block b h1
  · rw [hg.block b (fK h1 hb.size) (fun e=>h2 (fO e)),hb.block b h1]
 refine⟨h.1.kept (hk _ h.1.lt (by omega)),h1,(hk _ (by omega) (by omega)).trans h.2.2.1,(hk _ (by omega) (by omega)).trans h.2.2.2.1,(hk _ (by omega) (by omega)).trans h.fb,?_⟩
 rcases hb with hb|⟨w2,hb,hg⟩
 · exact h.below.trans (hb.mono (by omega))
 · exact(h.below.trans (hb.mono (by omega))).grown hg (by have:=hb.size;omega) (fun j hj=>by have:=fO hj;omega)
theorem bN (wr:fm)(o o':Obj):fE wr.heap.size wr ((wr.alloc o).alloc o'):=((fG _ _).alloc (fH _) _).alloc (by simp) _
theorem FRel.evPut {x:Ev} {o o':Obj} {w3:fm} (h:FRel ds evs cms w k m wr)(hx:evs[k]? =some x)(hn:aM (evs.take k) x.id=none)(h1:VMap w3 (w.heap.size+1+1) (k+1) (fun y=>if y=x.id then some (.agg x.enc.toArray) else aM (evs.take k) y))(h2:((wr.alloc o).alloc o').grownBy w3 (some (w.heap.size+1+1))):FRel ds evs cms w (k+1) m w3 :=
 h.evTurn (.inr ⟨_,bN wr o o',h2⟩) (by rw [←zhK hx hn];exact h1)
theorem FRel.evSkip {x:Ev} {o o':Obj} {v:fp} (h:FRel ds evs cms w k m wr)(hx:evs[k]? =some x)(hn:aM (evs.take k) x.id=some v):FRel ds evs cms w (k+1) m ((wr.alloc o).alloc o') :=
 h.evTurn (.inl (bN wr o o')) (by rw [←zhJ hx hn];exact(h.1.below (bN wr o o') h.1.lt).mono (by omega))
theorem FRel.cmPut {x:Cm} {o o':Obj} {w3:fm} (h:FRel ds evs cms w k m wr)(hx:cms[m]? =some x)(hn:aK (cms.take m) x.id=none)(h1:VMap w3 (w.heap.size+1+1+1) (m+1) (fun y=>if y=x.id then some (.agg x.enc.toArray) else aK (cms.take m) y))(h2:((wr.alloc o).alloc o').grownBy w3 (some (w.heap.size+1+1+1))):FRel ds evs cms w k (m+1) w3 :=
 h.cmTurn (.inr ⟨_,bN wr o o',h2⟩) (by rw [←zhP hx hn];exact h1)
theorem FRel.cmSkip {x:Cm} {o o':Obj} {v:fp} (h:FRel ds evs cms w k m wr)(hx:cms[m]? =some x)(hn:aK (cms.take m) x.id=some v):FRel ds evs cms w k (m+1) ((wr.alloc o).alloc o') :=
 h.cmTurn (.inl (bN wr o o')) (by rw [←zhO hx hn];exact(h.2.1.below (bN wr o o') h.2.1.lt).mono (by omega))
theorem FRel.fin {d:Doc} {w':fm} (h:FRel ds d.evs d.cms w d.evs.length d.cms.length wr)(hw:wr.heap.size≤w'.heap.size∧∀ b,b≠w.heap.size+1→w'.heap[b]? =wr.heap[b]?)(ht:w'.os=wr.os∧w'.tape=wr.tape∧w'.output=wr.output):cw d w (.returned (.agg #[.map (some (w.heap.size+1+1)),.map (some (w.heap.size+1+1+1))])) w':=by
 have hb:=h.below
 refine⟨_,_,rfl,?_,?_,by omega,by omega,ht.1.trans hb.os,ht.2.1.trans hb.tape,ht.2.2.trans hb.output,fI hb.size hw.1,fun b hb'=>(hw.2 b (by omega)).trans (hb.block b hb')⟩
 · have:=h.1.kept (w':=w') (hw.2 _ (by omega))
   rwa [fD] at this
 · have:=h.2.1.kept (w':=w') (hw.2 _ (by omega))
   rwa [fD] at this
end
theorem bn (d:Doc)(w:fm)(hd:d.lies w)(hf:d.fits) :
 Calls Tryz.prog 79 #[.agg d.enc.toArray] w (cw d w):=by
 have HFIN:=h_ (fun(ds:Array fp) (wr:fm) (h:FRel ds d.evs d.cms w d.evs.length d.cms.length wr) (w':fm) (hw:wr.heap.size≤w'.heap.size∧∀ b,b≠w.heap.size+1→w'.heap[b]? =wr.heap[b]?) (ht:w'.os=wr.os∧w'.tape=wr.tape∧w'.output=wr.output)=>h.fin hw ht)
 generalize cw d w=Q at *
 have HDE:=h_ hd.2.1
 have HDC:=h_ hd.2.2
 have HFE:=h_ hf.2.2.2.2.2.2.2.1
 have HLE:=h_ hf.2.2.2.2.2.2.2.2.1
 have HFC:=h_ hf.2.2.2.2.2.2.2.2.2.1
 have HLC:=h_ hf.2.2.2.2.2.2.2.2.2.2
 obtain⟨title,lang,rate,drop,last,ra,rc,rG,ea,ec,evs,ca,cc,cms⟩:=d
 clear hd hf
 simp only [Doc.enc] at *
 have hle:=HLE.out
 have hlc:=HLC.out
 have HST:=h_ (FRel.start #[fQ title,.string lang,.int .u8 rate,.bool drop,.int .i64 last,.slice ra rG.length rc,.slice ea evs.length ec,.slice ca cms.length cc] evs cms w)
 generalize hds:#[fQ title,.string lang,.int .u8 rate,.bool drop,.int .i64 last,.slice ra rG.length rc,.slice ea evs.length ec,.slice ca cms.length cc]=ds at *
 have hd7:ds[7]? =some (.slice ca cms.length cc):=by rw [←hds];rfl
 have hmm:=@run_makeMap Tryz.prog
 go_enter Tryz.func79,Tryz.ntmps79
 subst hds
 go_wp2_with fail
 have HDS:=h_ hd7
 clear hd7
 generalize hds:#[fQ title,.string lang,.int .u8 rate,.bool drop,.int .i64 last,.slice ra rG.length rc,.slice ea evs.length ec,.slice ca cms.length cc]=ds at *
 clear hds
 go_loopw [18] (fun i wr=>∃ k:Nat,k≤evs.length∧i=.int .i64 k∧FRel ds evs cms w k 0 wr) (fun i _=>evs.length-(intOf i).toNat)
 case atStart=>exact⟨0,by omega,rfl,HST.out⟩
 case round =>
  clear HST hmm
  obtain⟨k,hk,rfl,hrel⟩:=hrel
  by_cases hlt:k<evs.length
  · obtain⟨b,off,x,rfl,hbl,hx,hc,hok⟩:=(HDE.out.later hrel.below).at_ hlt
    have hid:i64 x.id:=(HFE.out x (fC hx)).1
    have HM:=h_ (fun(o:Obj)=>hrel.1.below ((fG _ _).alloc (fH _) o) hrel.1.lt)
    have HLK:=h_ (fun(o:Obj)=>(HM.out o).look Tryz.underlying145 (zh0 _) hid)
    have HM2:=h_ (fun(o o':Obj)=>(HM.out o).below ((fG _ _).alloc (fH _) o') (HM.out o).lt)
    have HID:=h_ hid
    have HREL:=h_ hrel
    have HX:=h_ hx
    have hkl:k<maxLen:=by have:=HLE.out;unfold maxLen;omega
    have hsz:w.heap.size+1+1+1+1<wr.heap.size:=hrel.size
    have c4:∀ o,(wr.alloc o).cell? ⟨w.heap.size+1+1+1+1,0,none⟩=some (.map (some (w.heap.size+1+1))):=fun o=>by rw [fR _ _ _ (by simpa using hsz)];exact ft _ _ 0 _ 148 (0,0) hrel.fb
    have c4':∀ o o',((wr.alloc o).alloc o').cell? ⟨w.heap.size+1+1+1+1,0,none⟩=some (.map (some (w.heap.size+1+1))):=fun o o'=>by rw [fR _ _ _ (by simp;omega)];exact c4 o
    have HPUT:=h_ (fun(o o':Obj) (w3:fm) (hn:aM (evs.take k) x.id=none) (h1:VMap w3 (w.heap.size+1+1) (k+1) (fun y=>if y=x.id then some (.agg (Ev.enc x).toArray) else aM (evs.take k) y)) (h2:((wr.alloc o).alloc o').grownBy w3 (some (w.heap.size+1+1)))=>FRel.evPut hrel hx hn h1 h2)
    have HSKIP:=h_ (fun(o o':Obj) (v:fp) (hn:aM (evs.take k) x.id=some v)=>FRel.evSkip (o:=o) (o':=o') hrel hx hn)
    have HVF:=h_ (zf9 (evs.take k) x.id)
    clear hrel hx hok
    obtain⟨id,inn,out,reg,kind,sp,xa,xc,xr⟩:=x
    have d0:=hc 0 _ rfl;have d1:=hc 1 _ rfl;have d2:=hc 2 _ rfl;have d3:=hc 3 _ rfl;have d4:=hc 4 _ rfl;have d5:=hc 5 _ rfl;have d6:=hc 6 _ rfl
    simp only [fM,Ev.enc] at d0 d1 d2 d3 d4 d5 d6 HLK HPUT HSKIP HVF HM2 HID
    clear hc
    generalize hV:aM (evs.take k)=f at *
    rcases HVF.out with hn|⟨⟨id2,inn2,out2,reg2,kind2,sp2,xa2,xc2,xr2⟩,hn⟩
    · simp only [hn,fV,fT] at HLK
      clear hV HVF HSKIP
      have HN:=h_ hn
      clear hn
      go_wp2_with (first
       | (at_lookup;refine aa _ rfl _ _ _ _ rfl _ _ _ rfl rfl (HLK.out _) ?_)
       | (at_mapUpdate;refine cx _ rfl _ _ _ 145 50 rfl Tryz.underlying145 (w.heap.size+1+1) k f rfl (HM2.out _ _) hkl _ rfl HID.out _ rfl ?_;intro w3 h3 hg3;have HR3:=h_ (HPUT.out _ _ _ HN.out h3 hg3);clear h3 hg3))
      go_roundw
      case rel=>exact⟨k+1,by omega,by go_num,HR3.out⟩
      case measure=>simp [intOf];omega
    · simp only [hn,fU,fS,Ev.enc] at HLK
      have HR3:=h_ (fun o o'=>HSKIP.out o o' _ hn)
      clear hV hn HVF HPUT
      go_wp2_with (at_lookup;refine aa _ rfl _ _ _ _ rfl _ _ _ rfl rfl (HLK.out _) ?_)
      go_roundw
      case rel=>exact⟨k+1,by omega,by go_num,HR3.out _ _⟩
      case measure=>simp [intOf];omega
  · obtain rfl:k=evs.length:=by omega
    have c7:wr.cell? ⟨w.heap.size,7,none⟩=some (.slice ca cms.length cc):=by rw [ft _ _ 7 ds 27 (0,0) hrel.dsAt];exact HDS.out
    have HREL:=h_ hrel
    clear hrel
    go_wp2_with fail
    clear c7
    go_loopw [41] (fun i wq=>∃ k:Nat,k≤cms.length∧i=.int .i64 k∧FRel ds evs cms w evs.length k wq) (fun i _=>cms.length-(intOf i).toNat)
    case atStart=>exact⟨0,by omega,rfl,HREL.out⟩
    case round =>
     clear HREL hk hlt
     obtain⟨k,hk,rfl,hrel⟩:=hrel
     by_cases hlt:k<cms.length
     · obtain⟨b,off,x,rfl,hbl,hx,hc,hok⟩:=(HDC.out.later hrel.below).at_ hlt
       have hid:i64 x.id:=(HFC.out x (fC hx)).1
       have HM:=h_ (fun(o:Obj)=>hrel.2.1.below ((fG _ _).alloc (fH _) o) hrel.2.1.lt)
       have HLK:=h_ (fun(o:Obj)=>(HM.out o).look Tryz.underlying146 (zgs _) hid)
       have HM2:=h_ (fun(o o':Obj)=>(HM.out o).below ((fG _ _).alloc (fH _) o') (HM.out o).lt)
       have HID:=h_ hid
       have HREL:=h_ hrel
       have HX:=h_ hx
       have hkl:k<maxLen:=by have:=HLC.out;unfold maxLen;omega
       have hsz:w.heap.size+1+1+1+1<wr.heap.size:=hrel.size
       have c4:∀ o,(wr.alloc o).cell? ⟨w.heap.size+1+1+1+1,1,none⟩=some (.map (some (w.heap.size+1+1+1))):=fun o=>by rw [fR _ _ _ (by simpa using hsz)];exact ft _ _ 1 _ 148 (0,0) hrel.fb
       have c4':∀ o o',((wr.alloc o).alloc o').cell? ⟨w.heap.size+1+1+1+1,1,none⟩=some (.map (some (w.heap.size+1+1+1))):=fun o o'=>by rw [fR _ _ _ (by simp;omega)];exact c4 o
       have HPUT:=h_ (fun(o o':Obj) (w3:fm) (hn:aK (cms.take k) x.id=none) (h1:VMap w3 (w.heap.size+1+1+1) (k+1) (fun y=>if y=x.id then some (.agg (Cm.enc x).toArray) else aK (cms.take k) y)) (h2:((wr.alloc o).alloc o').grownBy w3 (some (w.heap.size+1+1+1)))=>FRel.cmPut hrel hx hn h1 h2)
       have HSKIP:=h_ (fun(o o':Obj) (v:fp) (hn:aK (cms.take k) x.id=some v)=>FRel.cmSkip (o:=o) (o':=o') hrel hx hn)
       have HVF:=h_ (zgf (cms.take k) x.id)
       clear hrel hx hok
       obtain⟨id,cev,frm,til,au,tx,dn,lo⟩:=x
       have d0:=hc 0 _ rfl;have d1:=hc 1 _ rfl;have d2:=hc 2 _ rfl;have d3:=hc 3 _ rfl;have d4:=hc 4 _ rfl;have d5:=hc 5 _ rfl;have d6:=hc 6 _ rfl;have d7:=hc 7 _ rfl
       simp only [fM,Cm.enc] at d0 d1 d2 d3 d4 d5 d6 d7 HLK HPUT HSKIP HVF HM2 HID
       clear hc
       generalize hV:aK (cms.take k)=f at *
       rcases HVF.out with hn|⟨⟨id2,cev2,frm2,til2,au2,tx2,dn2,lo2⟩,hn⟩
       · simp only [hn,fV,fT] at HLK
         clear hV HVF HSKIP
         have HN:=h_ hn
         clear hn
         go_wp2_with (first
          | (at_lookup;refine aa _ rfl _ _ _ _ rfl _ _ _ rfl rfl (HLK.out _) ?_)
          | (at_mapUpdate;refine cx _ rfl _ _ _ 146 52 rfl Tryz.underlying146 (w.heap.size+1+1+1) k f rfl (HM2.out _ _) hkl _ rfl HID.out _ rfl ?_;intro w3 h3 hg3;have HR3:=h_ (HPUT.out _ _ _ HN.out h3 hg3);clear h3 hg3))
         go_roundw
         case rel=>exact⟨k+1,by omega,by go_num,HR3.out⟩
         case measure=>simp [intOf];omega
       · simp only [hn,fU,fS,Cm.enc] at HLK
         have HR3:=h_ (fun o o'=>HSKIP.out o o' _ hn)
         clear hV hn HVF HPUT
         go_wp2_with (at_lookup;refine aa _ rfl _ _ _ _ rfl _ _ _ rfl rfl (HLK.out _) ?_)
         go_roundw
         case rel=>exact⟨k+1,by omega,by go_num,HR3.out _ _⟩
         case measure=>simp [intOf];omega
     · obtain rfl:k=cms.length:=by omega
       have hfb:=hrel.fb
       have hrb:=hrel.2.2.2.1
       have HF:=h_ (HFIN.out ds wr hrel)
       have c4:∀ j,wr.cell? ⟨w.heap.size+1+1+1+1,j,none⟩=_:=fun j=>ft _ _ j _ 148 (0,0) hfb
       have c1:∀ j,wr.cell? ⟨w.heap.size+1,j,none⟩=_:=fun j=>ft _ _ j _ 148 (0,0) hrb
       have z1:∀ j,wr.frozen? ⟨w.heap.size+1,j,none⟩=false:=fun j=>by simp [fm.frozen?,hrb]
       clear hrel hfb hrb
       go_wp2_with fail
       refine bodyPost_ret (v:=.agg #[.map (some (w.heap.size+1+1)),.map (some (w.heap.size+1+1+1))]) (by simp [results,Tryz.results79,go_sem,c1]) rfl ?_
       refine HF.out _ ⟨by simp,fun b hb=>?_⟩ ⟨rfl,rfl,rfl⟩
       repeat rw [fE.heap_setCell _ _ _ _ hb]
end Go.Proofs.YtnlnmbcaongehaaGreatDoor
namespace Go.Proofs.YtnlnmbcaongehaaGreatDoor
open Go.RowKit
structure aV (w:fm)(b1 b2:Nat)(n:Nat)(xs:List Ev)(ys:List Cm):Prop where
 ev:VMap w b1 n (aM xs)
 cm:VMap w b2 n (aK ys)
theorem aV.kept {w w':fm} {b1 b2 n:Nat} {xs:List Ev} {ys:List Cm} (h:aV w b1 b2 n xs ys)(h1:w'.heap[b1]? =w.heap[b1]?)(h2:w'.heap[b2]? =w.heap[b2]?):aV w' b1 b2 n xs ys:=⟨h.ev.kept h1,h.cm.kept h2⟩
theorem aV.later {w w':fm} {b1 b2 n:Nat} {xs:List Ev} {ys:List Cm} (h:aV w b1 b2 n xs ys)(hb:fE w.heap.size w w'):aV w' b1 b2 n xs ys:=h.kept (hb.block _ h.ev.lt) (hb.block _ h.cm.lt)
def aI (xs:List Ev)(z:Int):Bool:=(xs.find? fun x=>x.id==z).isSome
def aJ (xs:List Cm)(z:Int):Bool:=(xs.find? fun x=>x.id==z).isSome
def zbA (xs xs':List Ev)(ys ys':List Cm)(z:Int):Bool:=(aI xs' z&&!aI xs z)||(aJ ys' z&&!aJ ys z)
theorem zbR {w:fm} {b n:Nat} {xs:List Ev} (h:VMap w b n (aM xs)) {z:Int} (hz:i64 z) :
 ∃ y:Ev,(∀ w',w'.heap[b]? =w.heap[b]?→(Instr.lookup 145 (.map (some b)) (.int .i64 z) true).run Tryz.prog w'=.ok (.tuple #[.agg y.enc.toArray,.bool (aI xs z)]) w')∧y=(xs.find? fun x=>x.id==z).getD bO:=by
 refine⟨_,fun w' hw=>?_,rfl⟩
 have:=(h.kept hw).look Tryz.underlying145 (zh0 _) hz
 rw [this]
 unfold aM aI
 cases xs.find? fun x=>x.id==z<;>rfl
theorem zgQ {w:fm} {b n:Nat} {ys:List Cm} (h:VMap w b n (aK ys)) {z:Int} (hz:i64 z) :
 ∃ y:Cm,(∀ w',w'.heap[b]? =w.heap[b]?→(Instr.lookup 146 (.map (some b)) (.int .i64 z) true).run Tryz.prog w'=.ok (.tuple #[.agg y.enc.toArray,.bool (aJ ys z)]) w')∧y=(ys.find? fun x=>x.id==z).getD bG:=by
 refine⟨_,fun w' hw=>?_,rfl⟩
 have:=(h.kept hw).look Tryz.underlying146 (zgs _) hz
 rw [this]
 unfold aK aJ
 cases ys.find? fun x=>x.id==z<;>rfl
theorem e_ {w:fm} {o1 o2 o3 o4 o5 o6:Obj} {b:Nat} (hb:b<w.heap.size):((w.alloc o1).alloc o2).heap[b]? =w.heap[b]?∧(((w.alloc o1).alloc o2).alloc o3).heap[b]? =w.heap[b]?∧((((w.alloc o1).alloc o2).alloc o3).alloc o4).heap[b]? =w.heap[b]?∧(((((w.alloc o1).alloc o2).alloc o3).alloc o4).alloc o5).heap[b]? =w.heap[b]?:=by
 refine⟨?_,?_,?_,?_⟩
 · rw [fF _ _ _ (by simp;omega),fF _ _ _ hb]
 · rw [fF _ _ _ (by simp;omega),fF _ _ _ (by simp;omega),fF _ _ _ hb]
 · rw [fF _ _ _ (by simp;omega),fF _ _ _ (by simp;omega),fF _ _ _ (by simp;omega),fF _ _ _ hb]
 · rw [fF _ _ _ (by simp;omega),fF _ _ _ (by simp;omega),fF _ _ _ (by simp;omega),fF _ _ _ (by simp;omega),fF _ _ _ hb]
theorem zd3 (b1 b2 c1 c2 n m:Nat)(xs xs':List Ev)(ys ys':List Cm)(z:Int)(w:fm)(hf:aV w b1 b2 n xs ys)(hg:aV w c1 c2 m xs' ys')(hz:i64 z) :
 Calls Tryz.prog 125 #[.agg #[.map (some b1),.map (some b2)],.agg #[.map (some c1),.map (some c2)],.int .i64 z] w fun e w'=>e=.returned (.bool (zbA xs xs' ys ys' z))∧fE w.heap.size w w':=by
 obtain⟨e1,h1,_⟩:=zbR hf.ev hz
 obtain⟨e2,h2,_⟩:=zgQ hf.cm hz
 obtain⟨e3,h3,_⟩:=zbR hg.ev hz
 obtain⟨e4,h4,_⟩:=zgQ hg.cm hz
 have L1:=h_ (fun o1 o2=>h1 ((w.alloc o1).alloc o2) (e_ (o3:=o1) (o4:=o1) (o5:=o1) (o6:=o1) hf.ev.lt).1)
 have L2:=h_ (fun o1 o2 o3=>h2 (((w.alloc o1).alloc o2).alloc o3) (e_ (o4:=o1) (o5:=o1) (o6:=o1) hf.cm.lt).2.1)
 have L3:=h_ (fun o1 o2 o3 o4=>h3 ((((w.alloc o1).alloc o2).alloc o3).alloc o4) (e_ (o5:=o1) (o6:=o1) hg.ev.lt).2.2.1)
 have L4:=h_ (fun o1 o2 o3 o4 o5=>h4 (((((w.alloc o1).alloc o2).alloc o3).alloc o4).alloc o5) (e_ (o6:=o1) hg.cm.lt).2.2.2)
 have HU:=h_ (show zbA xs xs' ys ys' z=((aI xs' z&&!aI xs z)||(aJ ys' z&&!aJ ys z)) from rfl)
 generalize zbA xs xs' ys ys' z=R at *
 generalize aI xs z=A at *
 generalize aI xs' z=B at *
 generalize aJ ys z=C at *
 generalize aJ ys' z=D at *
 clear h1 h2 h3 h4 hf hg
 have HB:Hid (∀ o1 o2 o3 o4 o5 o6:Obj,fE w.heap.size w ((((((w.alloc o1).alloc o2).alloc o3).alloc o4).alloc o5).alloc o6)):=h_ (fun o1 o2 o3 o4 o5 o6=>((((((fG _ _).alloc (fH _) _).alloc (by simp) _).alloc (by simp;try omega) _).alloc (by simp;try omega) _).alloc (by simp;try omega) _).alloc (by simp;try omega) _)
 obtain⟨i1,a1,a2,a3,a4,a5,a6,a7,a8⟩:=e1
 obtain⟨i3,q1,q2,q3,q4,q5,q6,q7,q8⟩:=e3
 obtain⟨i2,r1,r2,r3,r4,r5,r6,r7⟩:=e2
 obtain⟨i4,s1,s2,s3,s4,s5,s6,s7⟩:=e4
 simp only [Ev.enc,Cm.enc] at L1 L2 L3 L4
 go_enter Tryz.func125,Tryz.ntmps125
 go_wp2_with (first
  | (at_lookup;refine aa _ rfl _ _ _ _ rfl _ _ _ rfl rfl (L1.out _ _) ?_)
  | (at_lookup;refine aa _ rfl _ _ _ _ rfl _ _ _ rfl rfl (L2.out _ _ _) ?_)
  | (at_lookup;refine aa _ rfl _ _ _ _ rfl _ _ _ rfl rfl (L3.out _ _ _ _) ?_)
  | (at_lookup;refine aa _ rfl _ _ _ _ rfl _ _ _ rfl rfl (L4.out _ _ _ _ _) ?_))
 all_goals
  go_ret
  rw [HU.out]
  refine⟨?_,HB.out _ _ _ _ _ _⟩
  clear L1 L2 L3 L4 HB
  cases A<;>cases B<;>cases C<;>cases D<;>first|rfl|contradiction
def e8 (F:Nat→Int→Option fp)(w:fm)(e:Ending)(w':fm):Prop:=∃ (l:List Int) (v:fp),e=.returned v∧l.Pairwise (·<·)∧(∀ z,z∈l↔∃ j,j<3∧(F j z).isSome=true)∧w'.ownsRow w.heap.size 2 1 v l.length (l.map (fP .i64))∧fE w.heap.size w w'
def zd4 (F:Nat→Int→Option fp)(n:Nat)(w:fm)(k:Nat)(v:fp)(wr:fm):Prop:=∃ ks:List Int,wr.ownsRow w.heap.size 2 1 v ks.length (ks.map (fP .i64))∧(∀ z,z∈ks↔∃ j,j<k∧(F j z).isSome=true)∧ks.length≤k*n∧fE w.heap.size w wr
theorem zd4.start (F:Nat→Int→Option fp)(n:Nat)(w:fm):zd4 F n w 0 (.slice none 0 0) w:=⟨[],fm.ownsRow_nil _ _ _ _,fun z=>by simp,by simp,fG _ _⟩
theorem zgJ {w w1 w2:fm} {bk r0 n cnt B m:Nat} {f:Int→Option fp} {left:Int→Bool} {v v':fp} {ks:List fp} {cs:Array fp} (h:VRange w1 bk r0 n f left cnt)(ho:w1.ownsRow B 2 1 v m ks)(hb:bk<B)(hn:v.ownBlock≠some r0)(hg:(w1.alloc (.cells cs 2)).grownBy w2 v.ownBlock)(ha:v'.ownBlock=v.ownBlock∨v'.ownBlock=some (w1.heap.size+1))(hB:fE B w w1)(hs:B≤w1.heap.size:=by omega) :
 VRange w2 bk r0 n f left cnt∧fE B w w2∧v'.ownBlock≠some r0:=by
 have hlt:=h.lt
 have hk:∀ b,b<w1.heap.size→v.ownBlock≠some b→w2.heap[b]? =w1.heap[b]?:=fun b h1 h2=>by
  rw [hg.block b (by simp;omega) (fun e=>h2 e.symm),fF _ _ _ h1]
 refine⟨h.kept (hk bk hlt.2.1 (fun e=>?_)) (hk r0 hlt.1 hn),(hB.alloc hs _).grown hg (by simp;omega) (fun j hj=>(ho.lt j hj).1),fun e=>?_⟩
 · have:=(ho.lt bk e).1
   omega
 · rcases ha with ha|ha
   · exact hn (ha.symm.trans e)
   · rw [ha] at e
     have:=fO e
     omega
theorem zfq (g:Nat)(B3:Nat→Nat)(n:Nat)(F:Nat→Int→Option fp)(w:fm)(d0:w.cell? ⟨g,0,none⟩=some (.map (some (B3 0))))(d1:w.cell? ⟨g,1,none⟩=some (.map (some (B3 1))))(d2:w.cell? ⟨g,2,none⟩=some (.map (some (B3 2))))(hg:g<w.heap.size)
 (hM:∀ j,VMap w (B3 j) n (F j)) (hn:n≤1000000) :
 Calls Tryz.prog 136 #[.slice (some ⟨g,0,none⟩) 3 3] w (e8 F w):=by
 have HFIN:=h_ (fun(v:fp) (ks:List Int) (wr:fm) (hb:fE w.heap.size w wr) (ho:wr.ownsRow w.heap.size 2 1 v ks.length (ks.map (fP .i64))) (hl:ks.length≤3*n)=>dY w.heap.size v ks wr ho (by omega) hb.size)
 have HCMP:=h_ (fun(v:fp) (ks:List Int) (wr:fm) (ho:wr.ownsRow w.heap.size 2 1 v (bo ks).length ((bo ks).map (fP .i64))) (hl:ks.length≤3*n)=>eE w.heap.size v (bo ks) wr ho (by unfold bo;rw [fB];omega))
 have HQ:=h_ (fun(v:fp) (ks:List Int) (w':fm) (h:∀ z,z∈ks↔∃ j,j<3∧(F j z).isSome=true) (hl:ks.length≤3*n) (ho:w'.ownsRow w.heap.size 2 1 v (fW (bo ks)).length ((fW (bo ks)).map (fP .i64))) (hb:fE w.heap.size w w')=>(show e8 F w (.returned v) w' from
  ⟨_,v,rfl,(c9 ks).1,fun z=>((c9 ks).2 z).trans (h z),ho,hb⟩))
 obtain⟨j0,hj,hy0,hy1,hy2⟩:=info_parts Tryz.info2
 have JI:=h_ hj;have J0:=h_ hy0;have J1:=h_ hy1;have J2:=h_ hy2
 have HCELL:=h_ (fun(k:Nat) (hk:k<3) (wr:fm) (hb:fE w.heap.size w wr)=>(show wr.cell? ⟨g,k,none⟩=some (.map (some (B3 k))) from by
  rw [hb.cell (p:=⟨g,k,none⟩) hg]
  rcases(show k=0∨k=1∨k=2 by omega) with rfl|rfl|rfl
  · exact d0
  · exact d1
  · exact d2))
 have HMM:=h_ (fun(k:Nat) (wr:fm) (hb:fE w.heap.size w wr)=>(hM k).below hb (hM k).lt)
 have HBL:=h_ (fun(k:Nat)=>(hM k).lt)
 generalize e8 F w=Q at *
 clear hj hy0 hy1 hy2 d0 d1 d2 hM
 go_enter Tryz.func136,Tryz.ntmps136
 go_wp2_with fail
 go_loopw [3,9] (fun v i wr=>∃ k:Nat,k≤3∧i=.int .i64 k∧zd4 F n w k v wr) (fun _ i _=>3-(intOf i).toNat)
 case atStart=>exact⟨0,by omega,rfl,zd4.start F n w⟩
 case round =>
  obtain⟨k,hk,rfl,ks,ho,hmem,hlen,hb⟩:=hrel
  by_cases hlt:k<3
  · have hkz:decide ((k:Int)<3)=true:=by simp;omega
    have hc:=HCELL.out k hlt wr hb
    have HM:=h_ (HMM.out k wr hb)
    have hbl:=HBL.out k
    have HW:=h_ hb
    have HO:=h_ ho
    have HMEM:=h_ hmem
    have hs:=hb.size
    have HOB:=h_ (fun j (h:u3.ownBlock=some j)=>(ho.lt j h).2)
    clear ho hmem hb
    generalize B3 k=bk at *
    go_wp2_with (first|(at_range;refine bK _ rfl _ 145 50 rfl Tryz.underlying145 bk n (F k) rfl HM.out ?_;intro w0 cnt0 hr0 hcn hg0 hs0))
    go_frame
    have HBW0:=h_ (HW.out.grown hg0 hs (fun k h=>by cases h))
    have HO0:=h_ (ah HO.out (fun b h=>hg0.block b (HOB.out b h) (by simp)))
    have HR0:=h_ hr0
    have HNE:=h_ (fun(e:u3.ownBlock=some wr.heap.size)=>fL _ (HOB.out _ e))
    clear hr0 hg0
    generalize wr.heap.size=r0 at *
    clear hc
    go_loopw [3] (fun v wr=>∃ left cnt ks',VRange wr bk r0 n (F k) left cnt∧wr.ownsRow w.heap.size 2 1 v ks'.length (ks'.map (fP .i64))∧Keys (F k) left ks ks'∧ks'.length+cnt≤(k+1)*n∧v.ownBlock≠some r0∧fE w.heap.size w wr) (fun _ wr=>wr.rangeLeft bk r0)
    case atStart=>exact⟨_,cnt0,ks,HR0.out,HO0.out,Keys.start _ _,by rw [fN];omega,HNE.out,HBW0.out⟩
    case round =>
     obtain⟨left,cnt,ks',hR,hO,hK,hL,hN,hB⟩:=hrel
     have HR:=h_ hR
     have HK:=h_ hK
     have HO2:=h_ hO
     have HB2:=h_ hB
     have HL2:=h_ hL
     have HN2:=h_ hN
     have hsq:=hB.size
     clear hR hK hO hB hL hN HR0 HO0 HNE HBW0
     go_wp2_with (at_next;refine bP _ rfl _ rfl bk r0 n (F k) left cnt rfl HR.out ?done ?more)
     case done =>
      intro hc0 hl0
      have HD:=h_ (HK.out.fin hl0)
      have HL3:=h_ HL2.out
      go_wp2_with fail
      go_roundw
      case rel=>exact⟨k+1,by omega,by go_num,ks',HO2.out,fun z=>by
       rw [HD.out z,HMEM.out z]
       constructor
       · rintro (⟨j,hj,h⟩|h)
         · exact⟨j,by omega,h⟩
         · exact⟨k,by omega,h⟩
       · rintro ⟨j,hj,h⟩
         by_cases hjk:j=k
         · subst hjk;exact .inr h
         · exact .inl ⟨j,by omega,h⟩,by have:=HL3.out;omega,HB2.out⟩
      case measure=>simp [intOf];omega
     case more =>
      intro x v w1 cnt1 hx hlx hfx hR1 hlt1 hg1 hs1 hen
      have HR1:=h_ hR1
      have HG1:=h_ hg1
      have HFX:=h_ hfx
      have HLX:=h_ hlx
      have HO3:=h_ (ah HO2.out (fun b h=>hg1.block b (HO2.out.lt b h).2 (by intro e;exact HN2.out (h.trans e))))
      have HB3:=h_ (show fE w.heap.size w w1 from HB2.out.grown hg1 hsq (fun j h=>by cases h;exact hs))
      have HLT:=h_ hlt1
      have HLTR:=h_ HR.out.left_eq
      clear hR1 hg1 hfx hlx hlt1
      have HS1:=h_ hs1
      clear hs1
      have hsz1:w.heap.size≤w1.heap.size:=HB3.out.size
      have hks:ks'.length+cnt≤3*n:=fI HL2.out (fJ n (by omega))
      go_wp2_with (at_builtin;refine aA _ _ rfl (.tmp 19) (.tmp 21) 85 rfl w.heap.size 2 j0 _ 1 8 Tryz.underlying85 JI.out J0.out J1.out J2.out rfl (by decide) _ _ _ rfl HO3.out _ rfl rfl rfl ?h1 ?h63 ?hb ?hbase ?_)
      case h1=>first|rfl|(intro u hu;simp at hu;subst hu;rfl)
      case h63=>have:=HLT.out;unfold maxLen;omega
      case hb=>have:=HLT.out;omega
      case hbase=>exact hsz1
      intro v' w2 hown2 hgrow2 hat2
      have HX2:=h_ hown2
      have HG2:=h_ hgrow2
      have HA2:=h_ hat2
      clear hown2 hgrow2 hat2
      have HN3:=h_ (zgJ HR1.out HO3.out hbl HN2.out HG2.out HA2.out HB3.out)
      go_wp2_with fail
      go_roundw
      case rel=>exact⟨_,cnt1,ks'++[x],HN3.out.1,by simpa using HX2.out,HK.out.step HLX.out HFX.out,by have:=HLT.out;have:=HL2.out;simp;omega,HN3.out.2.2,HN3.out.2.1⟩
      case measure=>rw [HN3.out.1.left_eq,HLTR.out];exact HLT.out
  · obtain rfl:k=3:=by omega
    have hlen3:ks.length≤3*n:=hlen
    obtain⟨av2,cv2,hav⟩:∃ a c,u3=.slice a ks.length c:=by
     rcases ho.2 with⟨rfl,h0⟩|⟨g,cap,_,rfl,_⟩
     · exact⟨none,0,by rw [h0]⟩
     · exact⟨_,_,rfl⟩
    subst hav
    have HF1:=h_ (HFIN.out _ ks wr hb ho hlen3)
    have HRB:=h_ hb
    have HMEM:=h_ hmem
    have HL:=h_ hlen3
    clear ho hmem hb hlen hlen3 HFIN
    go_wp2_with fail
    refine HF1.out.mono ?_
    rintro e w2 ⟨rfl,ho2,hb2⟩
    have HF2:=h_ (HCMP.out _ ks _ ho2 HL.out)
    have HB2:=h_ hb2
    clear ho2 hb2
    go_wp2_with fail
    refine HF2.out.mono ?_
    rintro e w3 ⟨v3,rfl,ho3,hb3⟩
    have HF3:=h_ (HQ.out _ ks _ HMEM.out HL.out ho3 ((HRB.out.trans HB2.out).trans hb3))
    clear ho3 hb3
    go_wp2_with fail
    exact HF3.out
theorem zfp (g:Nat)(B3:Nat→Nat)(n:Nat)(F:Nat→Int→Option fp)(w:fm)(d0:w.cell? ⟨g,0,none⟩=some (.map (some (B3 0))))(d1:w.cell? ⟨g,1,none⟩=some (.map (some (B3 1))))(d2:w.cell? ⟨g,2,none⟩=some (.map (some (B3 2))))(hg:g<w.heap.size)
 (hM:∀ j,VMap w (B3 j) n (F j)) (hn:n≤1000000) :
 Calls Tryz.prog 140 #[.slice (some ⟨g,0,none⟩) 3 3] w (e8 F w):=by
 have HFIN:=h_ (fun(v:fp) (ks:List Int) (wr:fm) (hb:fE w.heap.size w wr) (ho:wr.ownsRow w.heap.size 2 1 v ks.length (ks.map (fP .i64))) (hl:ks.length≤3*n)=>dY w.heap.size v ks wr ho (by omega) hb.size)
 have HCMP:=h_ (fun(v:fp) (ks:List Int) (wr:fm) (ho:wr.ownsRow w.heap.size 2 1 v (bo ks).length ((bo ks).map (fP .i64))) (hl:ks.length≤3*n)=>eE w.heap.size v (bo ks) wr ho (by unfold bo;rw [fB];omega))
 have HQ:=h_ (fun(v:fp) (ks:List Int) (w':fm) (h:∀ z,z∈ks↔∃ j,j<3∧(F j z).isSome=true) (hl:ks.length≤3*n) (ho:w'.ownsRow w.heap.size 2 1 v (fW (bo ks)).length ((fW (bo ks)).map (fP .i64))) (hb:fE w.heap.size w w')=>(show e8 F w (.returned v) w' from
  ⟨_,v,rfl,(c9 ks).1,fun z=>((c9 ks).2 z).trans (h z),ho,hb⟩))
 obtain⟨j0,hj,hy0,hy1,hy2⟩:=info_parts Tryz.info2
 have JI:=h_ hj;have J0:=h_ hy0;have J1:=h_ hy1;have J2:=h_ hy2
 have HCELL:=h_ (fun(k:Nat) (hk:k<3) (wr:fm) (hb:fE w.heap.size w wr)=>(show wr.cell? ⟨g,k,none⟩=some (.map (some (B3 k))) from by
  rw [hb.cell (p:=⟨g,k,none⟩) hg]
  rcases(show k=0∨k=1∨k=2 by omega) with rfl|rfl|rfl
  · exact d0
  · exact d1
  · exact d2))
 have HMM:=h_ (fun(k:Nat) (wr:fm) (hb:fE w.heap.size w wr)=>(hM k).below hb (hM k).lt)
 have HBL:=h_ (fun(k:Nat)=>(hM k).lt)
 generalize e8 F w=Q at *
 clear hj hy0 hy1 hy2 d0 d1 d2 hM
 go_enter Tryz.func140,Tryz.ntmps140
 go_wp2_with fail
 go_loopw [3,9] (fun v i wr=>∃ k:Nat,k≤3∧i=.int .i64 k∧zd4 F n w k v wr) (fun _ i _=>3-(intOf i).toNat)
 case atStart=>exact⟨0,by omega,rfl,zd4.start F n w⟩
 case round =>
  obtain⟨k,hk,rfl,ks,ho,hmem,hlen,hb⟩:=hrel
  by_cases hlt:k<3
  · have hkz:decide ((k:Int)<3)=true:=by simp;omega
    have hc:=HCELL.out k hlt wr hb
    have HM:=h_ (HMM.out k wr hb)
    have hbl:=HBL.out k
    have HW:=h_ hb
    have HO:=h_ ho
    have HMEM:=h_ hmem
    have hs:=hb.size
    have HOB:=h_ (fun j (h:u3.ownBlock=some j)=>(ho.lt j h).2)
    clear ho hmem hb
    generalize B3 k=bk at *
    go_wp2_with (first|(at_range;refine bK _ rfl _ 146 52 rfl Tryz.underlying146 bk n (F k) rfl HM.out ?_;intro w0 cnt0 hr0 hcn hg0 hs0))
    go_frame
    have HBW0:=h_ (HW.out.grown hg0 hs (fun k h=>by cases h))
    have HO0:=h_ (ah HO.out (fun b h=>hg0.block b (HOB.out b h) (by simp)))
    have HR0:=h_ hr0
    have HNE:=h_ (fun(e:u3.ownBlock=some wr.heap.size)=>fL _ (HOB.out _ e))
    clear hr0 hg0
    generalize wr.heap.size=r0 at *
    clear hc
    go_loopw [3] (fun v wr=>∃ left cnt ks',VRange wr bk r0 n (F k) left cnt∧wr.ownsRow w.heap.size 2 1 v ks'.length (ks'.map (fP .i64))∧Keys (F k) left ks ks'∧ks'.length+cnt≤(k+1)*n∧v.ownBlock≠some r0∧fE w.heap.size w wr) (fun _ wr=>wr.rangeLeft bk r0)
    case atStart=>exact⟨_,cnt0,ks,HR0.out,HO0.out,Keys.start _ _,by rw [fN];omega,HNE.out,HBW0.out⟩
    case round =>
     obtain⟨left,cnt,ks',hR,hO,hK,hL,hN,hB⟩:=hrel
     have HR:=h_ hR
     have HK:=h_ hK
     have HO2:=h_ hO
     have HB2:=h_ hB
     have HL2:=h_ hL
     have HN2:=h_ hN
     have hsq:=hB.size
     clear hR hK hO hB hL hN HR0 HO0 HNE HBW0
     go_wp2_with (at_next;refine bP _ rfl _ rfl bk r0 n (F k) left cnt rfl HR.out ?done ?more)
     case done =>
      intro hc0 hl0
      have HD:=h_ (HK.out.fin hl0)
      have HL3:=h_ HL2.out
      go_wp2_with fail
      go_roundw
      case rel=>exact⟨k+1,by omega,by go_num,ks',HO2.out,fun z=>by
       rw [HD.out z,HMEM.out z]
       constructor
       · rintro (⟨j,hj,h⟩|h)
         · exact⟨j,by omega,h⟩
         · exact⟨k,by omega,h⟩
       · rintro ⟨j,hj,h⟩
         by_cases hjk:j=k
         · subst hjk;exact .inr h
         · exact .inl ⟨j,by omega,h⟩,by have:=HL3.out;omega,HB2.out⟩
      case measure=>simp [intOf];omega
     case more =>
      intro x v w1 cnt1 hx hlx hfx hR1 hlt1 hg1 hs1 hen
      have HR1:=h_ hR1
      have HG1:=h_ hg1
      have HFX:=h_ hfx
      have HLX:=h_ hlx
      have HO3:=h_ (ah HO2.out (fun b h=>hg1.block b (HO2.out.lt b h).2 (by intro e;exact HN2.out (h.trans e))))
      have HB3:=h_ (show fE w.heap.size w w1 from HB2.out.grown hg1 hsq (fun j h=>by cases h;exact hs))
      have HLT:=h_ hlt1
      have HLTR:=h_ HR.out.left_eq
      clear hR1 hg1 hfx hlx hlt1
      have HS1:=h_ hs1
      clear hs1
      have hsz1:w.heap.size≤w1.heap.size:=HB3.out.size
      have hks:ks'.length+cnt≤3*n:=fI HL2.out (fJ n (by omega))
      go_wp2_with (at_builtin;refine aA _ _ rfl (.tmp 19) (.tmp 21) 85 rfl w.heap.size 2 j0 _ 1 8 Tryz.underlying85 JI.out J0.out J1.out J2.out rfl (by decide) _ _ _ rfl HO3.out _ rfl rfl rfl ?h1 ?h63 ?hb ?hbase ?_)
      case h1=>first|rfl|(intro u hu;simp at hu;subst hu;rfl)
      case h63=>have:=HLT.out;unfold maxLen;omega
      case hb=>have:=HLT.out;omega
      case hbase=>exact hsz1
      intro v' w2 hown2 hgrow2 hat2
      have HX2:=h_ hown2
      have HG2:=h_ hgrow2
      have HA2:=h_ hat2
      clear hown2 hgrow2 hat2
      have HN3:=h_ (zgJ HR1.out HO3.out hbl HN2.out HG2.out HA2.out HB3.out)
      go_wp2_with fail
      go_roundw
      case rel=>exact⟨_,cnt1,ks'++[x],HN3.out.1,by simpa using HX2.out,HK.out.step HLX.out HFX.out,by have:=HLT.out;have:=HL2.out;simp;omega,HN3.out.2.2,HN3.out.2.1⟩
      case measure=>rw [HN3.out.1.left_eq,HLTR.out];exact HLT.out
  · obtain rfl:k=3:=by omega
    have hlen3:ks.length≤3*n:=hlen
    obtain⟨av2,cv2,hav⟩:∃ a c,u3=.slice a ks.length c:=by
     rcases ho.2 with⟨rfl,h0⟩|⟨g,cap,_,rfl,_⟩
     · exact⟨none,0,by rw [h0]⟩
     · exact⟨_,_,rfl⟩
    subst hav
    have HF1:=h_ (HFIN.out _ ks wr hb ho hlen3)
    have HRB:=h_ hb
    have HMEM:=h_ hmem
    have HL:=h_ hlen3
    clear ho hmem hb hlen hlen3 HFIN
    go_wp2_with fail
    refine HF1.out.mono ?_
    rintro e w2 ⟨rfl,ho2,hb2⟩
    have HF2:=h_ (HCMP.out _ ks _ ho2 HL.out)
    have HB2:=h_ hb2
    clear ho2 hb2
    go_wp2_with fail
    refine HF2.out.mono ?_
    rintro e w3 ⟨v3,rfl,ho3,hb3⟩
    have HF3:=h_ (HQ.out _ ks _ HMEM.out HL.out ho3 ((HRB.out.trans HB2.out).trans hb3))
    clear ho3 hb3
    go_wp2_with fail
    exact HF3.out
end Go.Proofs.YtnlnmbcaongehaaGreatDoor
