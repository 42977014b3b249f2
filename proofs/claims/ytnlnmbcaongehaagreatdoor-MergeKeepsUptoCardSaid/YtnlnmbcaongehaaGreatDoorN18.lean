/- merge.renames: the new IDs of the second side, by the old ones. The contract of merge.header: title, language and rate of the merged document. -/
import Derived.Test.YtnlnmbcaongehaaGreatDoorN14
set_option linter.unusedVariables false
set_option linter.unusedSimpArgs false
set_option maxRecDepth 100000
set_option maxHeartbeats 12800000
open Go.Lib renaming hid→h_
open List renaming mem_of_getElem?→Su,take_length→Sv,mem_of_find?_eq_some→Sw,length_filter_le→Sx,mem_of_mem_take→Sy,length_take_le→Sz,length_append→SA,filter_append→SB,mem_filter→SC,map_append→SD,replicate→SE,mem_map→SF
open Go.Value renaming string→SG,int→SH
open Go renaming cell_of_row→SI,World→SJ,heap_alloc_last→SK,Value→SL,heap_setCell_same→SM,Calls→SN
open Go.RowKit renaming Below→SO
open Nat renaming le_refl→SQ,le_trans→SR,lt_of_lt_of_le→SS,lt_trans→SU,add_one_le_iff→SV,lt_of_succ_lt→SW,lt_irrefl→SX,add_zero→SY
open Go.RowKit.Below renaming heap_alloc→SZ,refl→S5,heap_setCell→S6,alloc→S7,drew→S8,setCell→S9
open Array renaming getElem?_eq_some_iff→S_
open Go.World renaming size_alloc→Ta,ownsRow_nil→Tb,frozen?→Tc
open Go.Proofs.Tryz renaming prog→Td,underlying85→Te
open Go.Lib renaming compact→Tf
namespace Go.Proofs.YtnlnmbcaongehaaGreatDoor
open Go.RowKit
def oX (b0 a0:Doc)(x:Ev):Bool:=!bm b0.eV x.id&&(qg b0.eV a0.eV b0.cM a0.cM x.id&&!(match a0.eV.find? (fun y=>y.id==x.id) with|none=>false|some y=>evEq x y))
def oY (b0 a0:Doc)(x:Cm):Bool:=!bo b0.cM x.id&&(qg b0.eV a0.eV b0.cM a0.cM x.id&&!(match a0.cM.find? (fun y=>y.id==x.id) with|none=>false|some y=>cmEq x y))
def gZ (b0 a0 d:Doc)(k m:Nat):List Int:=((d.eV.take k).filter (oX b0 a0)).map Ev.id++((d.cM.take m).filter (oY b0 a0)).map Cm.id
theorem Fz {b0 a0 d:Doc} {k:Nat} {x:Ev} (h:d.eV[k]? =some x):gZ b0 a0 d (k+1) 0=if oX b0 a0 x=true then gZ b0 a0 d k 0++[x.id] else gZ b0 a0 d k 0:=by
 unfold gZ
 rw [iB _ k x h,SB,SD]
 split
 · rename_i hp
   simp [hp]
 · rename_i hp
   simp [hp]
theorem FB {b0 a0 d:Doc} {k m:Nat} {x:Cm} (h:d.cM[m]? =some x):gZ b0 a0 d k (m+1)=if oY b0 a0 x=true then gZ b0 a0 d k m++[x.id] else gZ b0 a0 d k m:=by
 unfold gZ
 rw [iB _ m x h,SB,SD]
 split
 · rename_i hp
   simp [hp,List.append_assoc]
 · rename_i hp
   simp [hp]
theorem DV (b0 a0 d:Doc)(k m:Nat):(gZ b0 a0 d k m).length≤d.eV.length+d.cM.length:=by
 unfold gZ
 have h1:=Sx (oX b0 a0) (d.eV.take k)
 have h2:=Sx (oY b0 a0) (d.cM.take m)
 have h3:=Sz k d.eV
 have h4:=Sz m d.cM
 simp only [SA,List.length_map]
 have h5:(d.eV.take k).length≤d.eV.length:=by simp;omega
 have h6:(d.cM.take m).length≤d.cM.length:=by simp;omega
 omega
theorem DW {b0 a0 d:Doc} {k m:Nat} (hf:d.fits) {z:Int} (h:z∈gZ b0 a0 d k m):i64 z:=by
 unfold gZ at h
 rcases List.mem_append.1 h with h|h
 · obtain⟨x,hx,rfl⟩:=SF.1 h
   exact(hf.2.2.2.2.2.2.2.1 x (Sy (SC.1 hx).1)).1
 · obtain⟨x,hx,rfl⟩:=SF.1 h
   exact(hf.2.2.2.2.2.2.2.2.2.1 x (Sy (SC.1 hx).1)).1
theorem Ft (C:List Int)(L:Int)(k:Nat)(z:Int)(h:C[k]? =some z):(fun y=>if y=z then some (SH .i64 (L+k+1)) else (mC C L k y).map (SH .i64))=fun y=>(mC C L (k+1) y).map (SH .i64):=by
 funext y
 simp only [mC,h]
 by_cases hy:y=z
 · subst hy
   simp
 · rw [if_neg hy,if_neg (fun e=>hy (Option.some.inj e).symm)]
theorem wrap64_in {n:Int} (h1:-9223372036854775808≤n)(h2:n≤9223372036854775807):IntKind.i64.wrap n=n:=IntWalk.i64_in n (by omega)
def jr (w:SJ)(g b1 b2:Nat):Prop:=∃ arr:Array SL,w.heap[g]? =some (.cells arr 148 (0,0))∧arr[0]? =some (.map (some b1))∧arr[1]? =some (.map (some b2))
theorem size_set (w:SJ)(a:Addr)(u:SL):(w.setCell a u).heap.size=w.heap.size:=by simp
def RCut (b0 a0:Doc)(n B:Nat)(W0:SJ)(s7 s8:SL)(wx:SJ):Prop:=∃ g7 g8 b1 b2 c1 c2,s7=.pointer (some ⟨g7,0,none⟩)∧s8=.pointer (some ⟨g8,0,none⟩)∧jr wx g7 b1 b2∧jr wx g8 c1 c2 ∧
 bZ wx b1 b2 n b0.eV b0.cM∧bZ wx c1 c2 n a0.eV a0.cM∧SO B W0 wx
def ORel (ids:List Int)(w5:SJ)(v:SL)(wr:SJ):Prop:=wr.ownsRow w5.heap.size 2 1 v ids.length (ids.map (SH .i64))∧SO w5.heap.size w5 wr
theorem ORel.push {ids:List Int} {w5 wr W w2:SJ} {v v':SL} {z:Int} {cs:Array SL} (h:ORel ids w5 v wr)(hW:SO wr.heap.size wr W)(ho:w2.ownsRow w5.heap.size 2 1 v' (ids.length+1) (ids.map (SH .i64)++cs.toList))(hcs:cs=#[.int .i64 z])(hg:(W.alloc (.cells cs 2)).grownBy w2 v.ownBlock):ORel (ids++[z]) w5 v' w2:=by
 subst hcs
 have hb:=h.2.trans (hW.mono h.2.size)
 exact⟨by simpa using ho,(hb.alloc hb.size _).grown hg (SR hb.size (by simp)) fun j hj=>(h.1.lt j hj).1⟩
def Ci (ids:List Int)(last:Int)(w:SJ)(e:Ending)(w':SJ):Prop:=∃ b,e=.returned (.map (some b))∧VMap w' b ids.length (fun z=>(mC ids last ids.length z).map (SH .i64))∧w.heap.size≤b∧SO w.heap.size w w'
theorem dheap (w:SJ):w.drew.heap=w.heap:=rfl
section
variable {w:SJ} {g b1 b2 k i:Nat} {u:SL} {o:Obj}
theorem jr.set (h:jr w g b1 b2)(hne:g≠k):jr (w.setCell ⟨k,i,none⟩ u) g b1 b2:=by
 obtain⟨arr,h1,h2⟩:=h
 exact⟨arr,(S6 _ _ _ _ hne).trans h1,h2⟩
theorem jr.kept {w':SJ} (h:jr w g b1 b2)(hb:w'.heap[g]? =w.heap[g]?):jr w' g b1 b2:=by
 obtain⟨arr,h1,h2⟩:=h
 exact⟨arr,hb.trans h1,h2⟩
theorem jr.lt (h:jr w g b1 b2):g<w.heap.size:=by
 obtain⟨arr,h1,h2⟩:=h
 exact(S_.1 h1).1
theorem jr.alloc (h:jr w g b1 b2):jr (w.alloc o) g b1 b2:=h.kept (SZ _ _ _ h.lt)
theorem jr.two (h:w.heap[g]? =some (.cells #[.map none,.map none] 148 (0,0))):jr ((w.setCell ⟨g,0,none⟩ (.map (some b1))).setCell ⟨g,1,none⟩ (.map (some b2))) g b1 b2 :=
 ⟨_,SM _ _ _ _ _ _ (SM _ _ _ _ _ _ h),rfl,rfl⟩
theorem L9 (hg:g=w.heap.size):(w.alloc o).heap[g]? =some o:=by
 subst hg
 exact SK _ _
theorem jr.new (hg:g=w.heap.size):jr (w.alloc (.cells #[.map (some b1),.map (some b2)] 148)) g b1 b2:=⟨_,L9 hg,rfl,rfl⟩
end
theorem nH (w:SJ)(b:Nat):w.drew.heap[b]? =w.heap[b]?:=rfl
theorem box3 (w:SJ)(xs ys zs:Array SL)(T:TypeId)(wx:SJ)(h:SO (w.heap.size+3) (((w.alloc (.cells xs T)).alloc (.cells ys T)).alloc (.cells zs T)) wx) :
 wx.heap[w.heap.size]? =some (.cells xs T (0,0))∧wx.heap[w.heap.size+1]? =some (.cells ys T (0,0))∧wx.heap[w.heap.size+1+1]? =some (.cells zs T (0,0)):=by
 refine⟨?_,?_,?_⟩
 · rw [h.block _ (by omega),SZ _ _ _ (by simp;try omega),SZ _ _ _ (by simp)]
   exact SK w _
 · rw [h.block _ (by omega),SZ _ _ _ (by simp)]
   have:=SK (w.alloc (.cells xs T)) (.cells ys T)
   rwa [Ta] at this
 · rw [h.block _ (by omega)]
   have:=SK ((w.alloc (.cells xs T)).alloc (.cells ys T)) (.cells zs T)
   rwa [Ta,Ta] at this
theorem mJ (w:SJ)(o1 o2 o3:Obj):SO w.heap.size w (((w.alloc o1).alloc o2).alloc o3):=(((S5 _ _).alloc (SQ _) _).alloc (by simp) _).alloc (by simp;try omega) _
theorem qb (base:Nat)(v:SL)(ss:List Int)(w:SJ)(hown:w.ownsRow base 2 1 v ss.length (ss.map (SH .i64)))(hl:ss.length≤8000000) :
 SN Td 95 #[v] w fun e w'=>∃ v',e=.returned v'∧w'.ownsRow base 2 1 v' (Tf ss).length ((Tf ss).map (SH .i64))∧v'.ownBlock=v.ownBlock∧SO base w w'∧Kept (fun b=>v.ownBlock=some b) w w':=by
 by_cases hv:v=.slice none 0 0
 · subst hv
   have h0:ss=[]:=by
    rcases hown.2 with⟨_,h⟩|⟨_,_,_,h,_⟩
    · exact List.eq_nil_of_length_eq_zero h
    · cases h
   subst h0
   exact(Tryz.slices_Compact_int_empty none 0 w).mono fun e w' ⟨he,hw⟩=>⟨_,he,by subst hw;simpa [Tf,Lib.compactUpTo] using hown,rfl,hw▸S5 _ _,hw▸Kept.refl _ _⟩
 · obtain⟨g,cap,rfl,hbg,hgl,hnc,_,_,hH⟩:=Lib.holds_of_ownsRow hown hv
   have hle:=Lib.compact_length_le ss
   refine(Tryz.slices_Compact_int g 0 cap ss w hH (by omega) hnc).mono fun e w' ⟨he,q,hw⟩=>?_
   subst hw
   have h1:=Lib.ownsRow_putRow (q:=q) (k:=(Tf ss).length) (ys:=Tf ss++SE (ss.length-(Tf ss).length) 0) hown (by simp;omega) hle
   rw [List.take_append_of_le_length (SQ _),Sv] at h1
   have hb:=Lib.below_putRow (enc:=SH .i64) (q:=q) (d:=(Tf ss++SE (ss.length-(Tf ss).length) 0).toArray) (S5 base w) hbg
   refine⟨_,he,h1,rfl,hb,hb.os,hb.tape,hb.output,hb.size,fun k hk hne=>?_⟩
   have hkg:g≠k:=fun e=>hne (by rw [e];rfl)
   simp only [Sort.putRow,Sort.mapBlock,Array.getElem?_modify]
   rw [if_neg hkg]
   rfl
theorem wo (b0 a0 d:Doc)(w:SJ)(hb:b0.lies w)(ha:a0.lies w)(hd:d.lies w)(ln:b0.fits)(hfa:a0.fits)(bn:d.fits)(n:Nat)(hn:n≤1000000)(hbl:b0.eV.length≤n∧b0.cM.length≤n)(hal:a0.eV.length≤n∧a0.cM.length≤n)(hdl:d.eV.length≤n∧d.cM.length≤n)
 (hla:0≤a0.last∧a0.last≤1099511627776) (hld:0≤d.last∧d.last≤1099511627776) :
 SN Td 75 #[.agg b0.enc.toArray,.agg a0.enc.toArray,.agg d.enc.toArray] w (Ci (Tf (aR (gZ b0 a0 d d.eV.length d.cM.length))) (max a0.last d.last) w):=by
 have Dz:=h_ (fun(w1:SJ) (h:SO w.heap.size w w1)=>fj b0 w1 (Doc.later hb h) ln)
 have Qw:=h_ (fun(w1:SJ) (h:SO w.heap.size w w1)=>fj a0 w1 (Doc.later ha h) hfa)
 have Qc:=h_ (fun(b1 b2:Nat) (wx:SJ) (h1:VMap wx b1 b0.eV.length (bA b0.eV)) (h2:VMap wx b2 b0.cM.length (bp b0.cM))=>(show bZ wx b1 b2 n b0.eV b0.cM from⟨h1.mono hbl.1,h2.mono hbl.2⟩))
 have KT:=h_ (fun(b1 b2:Nat) (wx:SJ) (h1:VMap wx b1 a0.eV.length (bA a0.eV)) (h2:VMap wx b2 a0.cM.length (bp a0.cM))=>(show bZ wx b1 b2 n a0.eV a0.cM from⟨h1.mono hal.1,h2.mono hal.2⟩))
 have EP:=h_ hd.2.1
 have EX:=h_ hd.2.2
 have Hn:=h_ bn.2.2.2.2.2.2.2.1
 have JX:=h_ bn.2.2.2.2.2.2.2.2.2.1
 have Ij:=h_ hdl
 have HAE:=h_ (fun(x:Ev) (hx:x∈a0.eV)=>(show x.lies w∧x.fits from⟨nD ha.2.1 hx,hfa.2.2.2.2.2.2.2.1 x hx⟩))
 have HIE:=h_ (fun k x=>Fz (b0:=b0) (a0:=a0) (d:=d) (k:=k) (x:=x))
 have HIC:=h_ (fun m x=>FB (b0:=b0) (a0:=a0) (d:=d) (k:=d.eV.length) (m:=m) (x:=x))
 have RO:=h_ (fun k m=>DV b0 a0 d k m)
 have HI0:=h_ (show gZ b0 a0 d 0 0=[] from rfl)
 have EO:=h_ (fun z (hz:z∈gZ b0 a0 d d.eV.length d.cM.length)=>DW bn hz)
 have HPE:=h_ (fun(x:Ev)=>(show oX b0 a0 x=(!bm b0.eV x.id&&(qg b0.eV a0.eV b0.cM a0.cM x.id&&!(match a0.eV.find? (fun y=>y.id==x.id) with|none=>false|some y=>evEq x y))) from rfl))
 have HPC:=h_ (fun(x:Cm)=>(show oY b0 a0 x=(!bo b0.cM x.id&&(qg b0.eV a0.eV b0.cM a0.cM x.id&&!(match a0.cM.find? (fun y=>y.id==x.id) with|none=>false|some y=>cmEq x y))) from rfl))
 generalize hQ:Ci (Tf (aR (gZ b0 a0 d d.eV.length d.cM.length))) (max a0.last d.last) w=Q at *
 have HQ:=h_ hQ
 clear hQ
 generalize gZ b0 a0 d=IDS at *
 generalize oX b0 a0=PE at *
 generalize oY b0 a0=PC at *
 obtain⟨bt,bl,br,bd,bla,bra,brc,bregs,bea,bec,bevs,bca,bcc,bcms⟩:=b0
 obtain⟨at_,al,ar,ad,ala,ara,arc,aregs,aea,aec,aevs,aca,acc,acms⟩:=a0
 obtain⟨dt,dl,dr,dd,dla,dra,drc,dregs,dea,dec,devs,dca,dcc,dcms⟩:=d
 clear hb ha hd ln hfa bn hbl hal hdl
 simp only [Doc.enc] at *
 have F0:=h_ (fun wx (h:SO (w.heap.size+3) (((w.alloc (.cells #[SG bt,.string bl,.int .u8 br,.bool bd,.int .i64 bla,.slice bra bregs.length brc,.slice bea bevs.length bec,.slice bca bcms.length bcc] 27)).alloc (.cells #[SG at_,.string al,.int .u8 ar,.bool ad,.int .i64 ala,.slice ara aregs.length arc,.slice aea aevs.length aec,.slice aca acms.length acc] 27)).alloc (.cells #[SG dt,.string dl,.int .u8 dr,.bool dd,.int .i64 dla,.slice dra dregs.length drc,.slice dea devs.length dec,.slice dca dcms.length dcc] 27)) wx)=>box3 w _ _ _ 27 wx h)
 have HB:=h_ (fun wx (h:SO (w.heap.size+3) (((w.alloc (.cells #[SG bt,.string bl,.int .u8 br,.bool bd,.int .i64 bla,.slice bra bregs.length brc,.slice bea bevs.length bec,.slice bca bcms.length bcc] 27)).alloc (.cells #[SG at_,.string al,.int .u8 ar,.bool ad,.int .i64 ala,.slice ara aregs.length arc,.slice aea aevs.length aec,.slice aca acms.length acc] 27)).alloc (.cells #[SG dt,.string dl,.int .u8 dr,.bool dd,.int .i64 dla,.slice dra dregs.length drc,.slice dea devs.length dec,.slice dca dcms.length dcc] 27)) wx)=>(show SO w.heap.size w wx from(mJ w _ _ _).trans (h.mono (by omega))))
 have hsz:(((w.alloc (.cells #[SG bt,.string bl,.int .u8 br,.bool bd,.int .i64 bla,.slice bra bregs.length brc,.slice bea bevs.length bec,.slice bca bcms.length bcc] 27)).alloc (.cells #[SG at_,.string al,.int .u8 ar,.bool ad,.int .i64 ala,.slice ara aregs.length arc,.slice aea aevs.length aec,.slice aca acms.length acc] 27)).alloc (.cells #[SG dt,.string dl,.int .u8 dr,.bool dd,.int .i64 dla,.slice dra dregs.length drc,.slice dea devs.length dec,.slice dca dcms.length dcc] 27)).heap.size=w.heap.size+3:=by simp
 generalize hW0:(((w.alloc (.cells #[SG bt,.string bl,.int .u8 br,.bool bd,.int .i64 bla,.slice bra bregs.length brc,.slice bea bevs.length bec,.slice bca bcms.length bcc] 27)).alloc (.cells #[SG at_,.string al,.int .u8 ar,.bool ad,.int .i64 ala,.slice ara aregs.length arc,.slice aea aevs.length aec,.slice aca acms.length acc] 27)).alloc (.cells #[SG dt,.string dl,.int .u8 dr,.bool dd,.int .i64 dla,.slice dra dregs.length drc,.slice dea devs.length dec,.slice dca dcms.length dcc] 27))=W0 at *
 have HW0:=h_ hW0
 have bu:=h_ hsz
 have hb0:SO (w.heap.size+3) W0 W0:=S5 _ _
 have hbd:SO (w.heap.size+3) W0 W0.drew:=hb0.drew
 have iY:=h_ (fun(w2:SJ) (h:SO (w.heap.size+3) W0 w2)=>(show w.heap.size+3≤w2.heap.size by have:=h.size;rw [bu.out] at this;exact this))
 have HT:=h_ (fun(w2 w3:SJ) (h:SO (w.heap.size+3) W0 w2) (h3:SO w2.heap.size w2 w3)=>(h.trans (h3.mono (iY.out _ h)):SO (w.heap.size+3) W0 w3))
 have Qu:=h_ (fun(w1:SJ) (h:SO (w.heap.size+3) W0 w1)=>(Dz.out w1 (HB.out _ h)).mono (fun e w' p=>(show ∃ b1 b2,e=.returned (.agg #[.map (some b1),.map (some b2)])∧Hid (bZ w' b1 b2 n bevs bcms∧w1.heap.size≤b1∧w1.heap.size≤b2)∧SO (w.heap.size+3) W0 w'∧Hid (SO w1.heap.size w1 w') from by
  obtain⟨b1,b2,q1,q2,q3,q5,q6,q4⟩:=p
  exact⟨b1,b2,q1,⟨Qc.out b1 b2 w' q2 q3,q5,q6⟩,HT.out _ _ h q4,q4⟩)))
 have Qv:=h_ (fun(w1:SJ) (h:SO (w.heap.size+3) W0 w1)=>(Qw.out w1 (HB.out _ h)).mono (fun e w' p=>(show ∃ b1 b2,e=.returned (.agg #[.map (some b1),.map (some b2)])∧Hid (bZ w' b1 b2 n aevs acms∧w1.heap.size≤b1∧w1.heap.size≤b2)∧SO (w.heap.size+3) W0 w'∧Hid (SO w1.heap.size w1 w') from by
  obtain⟨b1,b2,q1,q2,q3,q5,q6,q4⟩:=p
  exact⟨b1,b2,q1,⟨KT.out b1 b2 w' q2 q3,q5,q6⟩,HT.out _ _ h q4,q4⟩)))
 have fb:∀ wx,SO (w.heap.size+3) W0 wx→∀ j,wx.cell? ⟨w.heap.size,j,none⟩=_:=fun wx h j=>SI _ _ j _ 27 (0,0) (F0.out wx h).1
 have fa:∀ wx,SO (w.heap.size+3) W0 wx→∀ j,wx.cell? ⟨w.heap.size+1,j,none⟩=_:=fun wx h j=>SI _ _ j _ 27 (0,0) (F0.out wx h).2.1
 have fd:∀ wx,SO (w.heap.size+3) W0 wx→∀ j,wx.cell? ⟨w.heap.size+1+1,j,none⟩=_:=fun wx h j=>SI _ _ j _ 27 (0,0) (F0.out wx h).2.2
 have FD:=h_ fd
 have FA:=h_ fa
 have HAD:=h_ (fun(w2:SJ) (h:SO (w.heap.size+3) W0 w2) (o:Obj)=>(h.alloc (iY.out _ h) o:SO (w.heap.size+3) W0 (w2.alloc o)))
 clear hW0 hsz fd
 go_enter Tryz.func75,Tryz.ntmps75
 go_upto_region 1 with fail
 rw [HW0.out]
 go_cut [7,8] (fun s7 s8 wx=>RCut ⟨bt,bl,br,bd,bla,bra,brc,bregs,bea,bec,bevs,bca,bcc,bcms⟩ ⟨at_,al,ar,ad,ala,ara,arc,aregs,aea,aec,aevs,aca,acc,acms⟩ n (w.heap.size+3) W0 s7 s8 wx)
 case first =>
  go_region_held3 (fun w'=>SO (w.heap.size+3) W0 w') (repeat (first|with_reducible assumption|with_reducible exact hbd|with_reducible refine S8 ?_|with_reducible refine S7 ?_ (by first|(have:=bu.out;simp;omega)|(have:=iY.out _ hcA;simp;omega)|(have:=iY.out _ hcB;simp;omega)|(rw [bu.out];exact SQ _)) _|with_reducible refine S9 ?_ (by dsimp only;first|(have:=bu.out;simp;omega)|(have:=iY.out _ hcA;simp;omega)|(have:=iY.out _ hcB;simp;omega)) _)) (first
   | (go_at_call 79;(with_reducible refine(Qu.out _ ?_).mono ?_);(repeat (first|with_reducible assumption|with_reducible exact hbd|with_reducible refine S8 ?_|with_reducible refine S7 ?_ (by first|(have:=bu.out;simp;omega)|(have:=iY.out _ hcA;simp;omega)) _));rintro e wB ⟨b1,b2,rfl,KA,hcB,NN⟩;obtain⟨kB1,kB2⟩:=bcell NN.out;have sB:=NN.out.size;(try simp only [dheap,Ta,SV] at sB);(try have tB:=SW sB);(try have uB:=SS sA sB);(try have vB:=SS tA sB);(try have xB:=SU sA sB);(try have yB:=SU tA sB))
   | (go_at_call 79;(with_reducible refine(Qv.out _ ?_).mono ?_);(repeat (first|with_reducible assumption|with_reducible exact hbd|with_reducible refine S8 ?_|with_reducible refine S7 ?_ (by first|(have:=bu.out;simp;omega)|(have:=iY.out _ hcB;simp;omega)) _));rintro e wA ⟨a1,a2,rfl,KB,hcA,NO⟩;obtain⟨kA1,kA2⟩:=bcell NO.out;have sA:=NO.out.size;(try simp only [dheap,Ta,SV] at sA);(try have tA:=SW sA);(try have uA:=SS sB sA);(try have vA:=SS tB sA);(try have xA:=SU sB sA);(try have yA:=SU tB sA)))
  all_goals
   go_wp2_with fail
   go_meet
   obtain⟨mB,lB1,lB2⟩:=KA.out
   obtain⟨mA,lA1,lA2⟩:=KB.out
   have pB1:=mB.ev.lt
   have pB2:=mB.cm.lt
   have pA1:=mA.ev.lt
   have pA2:=mA.cm.lt
   simp only [dheap,Ta] at lB1 lB2 lA1 lA2
   have hsz:=bu.out
   refine⟨_,_,b1,b2,a1,a2,rfl,rfl,?bx7,?bx8,⟨mB.ev.kept ?e1,mB.cm.kept ?e2⟩,⟨mA.ev.kept ?e3,mA.cm.kept ?e4⟩,?bel⟩
   case bx7=>repeat (first|(with_reducible refine jr.new ?hs;case hs=>(first|omega|(simp only [dheap,Ta,size_set]<;>omega)))|with_reducible refine jr.two ?_|(with_reducible refine jr.set ?_ ?hs;case hs=>omega)|with_reducible refine jr.alloc ?_|(with_reducible refine L9 ?hs;case hs=>(first|omega|(simp only [dheap,Ta,size_set]<;>omega)))|(with_reducible refine(S6 _ _ _ _ ?hs).trans ?_;case hs=>(dsimp only;omega))|(with_reducible refine(SZ _ _ _ ?hs).trans ?_;case hs=>(first|omega|(simp only [dheap,Ta,size_set]<;>omega)))|(with_reducible refine(NO.out.block _ ?hs).trans ?_;case hs=>(first|omega|(simp only [dheap,Ta,size_set]<;>omega)))|(with_reducible refine(NN.out.block _ ?hs).trans ?_;case hs=>(first|omega|(simp only [dheap,Ta,size_set]<;>omega)))|with_reducible refine(nH _ _).trans ?_)
   case bx8=>repeat (first|(with_reducible refine jr.new ?hs;case hs=>(first|omega|(simp only [dheap,Ta,size_set]<;>omega)))|with_reducible refine jr.two ?_|(with_reducible refine jr.set ?_ ?hs;case hs=>omega)|with_reducible refine jr.alloc ?_|(with_reducible refine L9 ?hs;case hs=>(first|omega|(simp only [dheap,Ta,size_set]<;>omega)))|(with_reducible refine(S6 _ _ _ _ ?hs).trans ?_;case hs=>(dsimp only;omega))|(with_reducible refine(SZ _ _ _ ?hs).trans ?_;case hs=>(first|omega|(simp only [dheap,Ta,size_set]<;>omega)))|(with_reducible refine(NO.out.block _ ?hs).trans ?_;case hs=>(first|omega|(simp only [dheap,Ta,size_set]<;>omega)))|(with_reducible refine(NN.out.block _ ?hs).trans ?_;case hs=>(first|omega|(simp only [dheap,Ta,size_set]<;>omega)))|with_reducible refine(nH _ _).trans ?_)
   case e1=>repeat (first|(with_reducible refine(S6 _ _ _ _ ?hs).trans ?_;case hs=>(dsimp only;omega))|(with_reducible refine(SZ _ _ _ ?hs).trans ?_;case hs=>(first|omega|(simp only [dheap,Ta,size_set]<;>omega)))|(with_reducible refine(NO.out.block _ ?hs).trans ?_;case hs=>(first|omega|(simp only [dheap,Ta,size_set]<;>omega)))|with_reducible refine(nH _ _).trans ?_|with_reducible exact rfl)
   case e2=>repeat (first|(with_reducible refine(S6 _ _ _ _ ?hs).trans ?_;case hs=>(dsimp only;omega))|(with_reducible refine(SZ _ _ _ ?hs).trans ?_;case hs=>(first|omega|(simp only [dheap,Ta,size_set]<;>omega)))|(with_reducible refine(NO.out.block _ ?hs).trans ?_;case hs=>(first|omega|(simp only [dheap,Ta,size_set]<;>omega)))|with_reducible refine(nH _ _).trans ?_|with_reducible exact rfl)
   case e3=>repeat (first|(with_reducible refine(S6 _ _ _ _ ?hs).trans ?_;case hs=>(dsimp only;omega))|(with_reducible refine(SZ _ _ _ ?hs).trans ?_;case hs=>(first|omega|(simp only [dheap,Ta,size_set]<;>omega)))|(with_reducible refine(NN.out.block _ ?hs).trans ?_;case hs=>(first|omega|(simp only [dheap,Ta,size_set]<;>omega)))|with_reducible refine(nH _ _).trans ?_|with_reducible exact rfl)
   case e4=>repeat (first|(with_reducible refine(S6 _ _ _ _ ?hs).trans ?_;case hs=>(dsimp only;omega))|(with_reducible refine(SZ _ _ _ ?hs).trans ?_;case hs=>(first|omega|(simp only [dheap,Ta,size_set]<;>omega)))|(with_reducible refine(NN.out.block _ ?hs).trans ?_;case hs=>(first|omega|(simp only [dheap,Ta,size_set]<;>omega)))|with_reducible refine(nH _ _).trans ?_|with_reducible exact rfl)
   case bel=>repeat (first|with_reducible assumption|with_reducible exact hbd|with_reducible refine S8 ?_|with_reducible refine S7 ?_ (by simp;omega) _|with_reducible refine S9 ?_ (by dsimp only;omega) _)
 case rest =>
  obtain⟨g7,g8,b1,b2,c1,c2,rfl,rfl,⟨arr7,h7,h70,h71⟩,⟨arr8,h8,h80,h81⟩,KA,KB,hcw⟩:=hcut
  have QB:=h_ hcw
  have l7:=(S_.1 h7).1
  have l8:=(S_.1 h8).1
  have k70:∀ w1,SO wc.heap.size wc w1→w1.cell? ⟨g7,0,none⟩=some (.map (some b1)):=fun w1 h=>(SI _ _ 0 arr7 148 (0,0) ((h.block _ l7).trans h7)).trans h70
  have k71:∀ w1,SO wc.heap.size wc w1→w1.cell? ⟨g7,1,none⟩=some (.map (some b2)):=fun w1 h=>(SI _ _ 1 arr7 148 (0,0) ((h.block _ l7).trans h7)).trans h71
  have k80:∀ w1,SO wc.heap.size wc w1→w1.cell? ⟨g8,0,none⟩=some (.map (some c1)):=fun w1 h=>(SI _ _ 0 arr8 148 (0,0) ((h.block _ l8).trans h8)).trans h80
  have k81:∀ w1,SO wc.heap.size wc w1→w1.cell? ⟨g8,1,none⟩=some (.map (some c2)):=fun w1 h=>(SI _ _ 1 arr8 148 (0,0) ((h.block _ l8).trans h8)).trans h81
  have kd:∀ w1,SO wc.heap.size wc w1→∀ j,w1.cell? ⟨w.heap.size+1+1,j,none⟩=_:=fun w1 h j=>FD.out w1 (HT.out _ _ hcw h) j
  have ka:∀ w1,SO wc.heap.size wc w1→∀ j,w1.cell? ⟨w.heap.size+1,j,none⟩=_:=fun w1 h j=>FA.out w1 (HT.out _ _ hcw h) j
  have hw0:SO wc.heap.size wc wc:=S5 _ _
  have hd1:devs.length≤1000000:=by have:=Ij.out;omega
  have hd2:dcms.length≤1000000:=by have:=Ij.out;omega
  obtain⟨j0,hj,hy0,hy1,hy2⟩:=info_parts Tryz.info2
  have JI:=h_ hj;have J0:=h_ hy0;have J1:=h_ hy1;have J2:=h_ hy2
  have hmm:=@run_makeMap Td
  clear hj hy0 hy1 hy2 h7 h8 h70 h71 h80 h81 l7 l8 fb fa hb0 hbd Dz Qw Qu Qv Qc KT
  go_wp2_with fail
  go_loopw [9,33] (fun v i wr=>∃ k:Nat,k≤devs.length∧i=.int .i64 k∧ORel (IDS k 0) wc v wr) (fun _ i _=>devs.length-(intOf i).toNat)
  case atStart=>exact⟨0,by omega,rfl,by rw [HI0.out];exact⟨Tb _ _ _ _,hw0⟩⟩
  case round =>
   obtain⟨k,hk,rfl,hrel⟩:=hrel
   by_cases hlt:k<devs.length
   · have hb:=hrel.2
     have PM:=h_ hb.size
     have HO:=h_ hrel.1
     have hws:=hb.size
     obtain⟨b,off,x,rfl,hbl,hx,hc,hok⟩:=((EP.out.later (HB.out _ hcw)).later hb).at_ hlt
     have hft:=Hn.out x (Su hx)
     have hid:i64 x.id:=hft.1
     have hA1:∀ o,SO wc.heap.size wc (wr.alloc o):=fun o=>hb.alloc hb.size o
     have hA2:∀ o o',SO wc.heap.size wc ((wr.alloc o).alloc o'):=fun o o'=>(hA1 o).alloc (hA1 o).size o'
     obtain⟨e1,h1,_⟩:=qO KA.ev hid
     obtain⟨e2,h2,he2⟩:=qO KB.ev hid
     have L1:=h_ (fun(w1:SJ) (h:SO wc.heap.size wc w1)=>h1 w1 (h.block _ KA.ev.lt))
     have L2:=h_ (fun(w1:SJ) (h:SO wc.heap.size wc w1)=>h2 w1 (h.block _ KB.ev.lt))
     have Nx:=h_ (fun(w1:SJ) (h:SO wc.heap.size wc w1)=>vF b1 b2 c1 c2 n n bevs aevs bcms acms x.id w1 (KA.later h) (KB.later h) hid)
     have hP:=HPE.out x
     have hM:∃ M:Bool,PE x=(!bm bevs x.id&&(qg bevs aevs bcms acms x.id&&!M))∧((bm aevs x.id=false∧M=false)∨(bm aevs x.id=true∧M=evEq x e2∧e2∈aevs)):=by
      unfold bm at *
      cases bn:aevs.find? (fun y=>y.id==x.id) with
      | none =>
        rw [bn] at hP
        exact⟨false,hP,.inl ⟨rfl,rfl⟩⟩
      | some y =>
        rw [bn] at hP he2
        obtain rfl:e2=y:=he2
        exact⟨evEq x e2,hP,.inr ⟨rfl,rfl,Sw bn⟩⟩
     have HX:=h_ (HIE.out k x hx)
     have hgx:=fun j v h=>ag wr (x.enc).toArray 50 j v h
     have HR:=h_ (fun w1 (h:SO (wr.heap.size+1) (wr.alloc (.cells (x.enc).toArray 50)) w1)=>(((S5 wr.heap.size wr).alloc (SQ _) _).trans (h.mono (by omega)):SO wr.heap.size wr w1))
     have HA:=h_ (fun w1 (h:SO (wr.heap.size+1) (wr.alloc (.cells (x.enc).toArray 50)) w1)=>(hb.trans ((HR.out w1 h).mono hb.size):SO wc.heap.size wc w1))
     have EI:=h_ (fun(w1 w2:SJ) (h:SO (wr.heap.size+1) (wr.alloc (.cells (x.enc).toArray 50)) w1) (h2:SO w1.heap.size w1 w2)=>(h.trans (h2.mono (by have:=h.size;rw [Ta] at this;exact this)):SO (wr.heap.size+1) (wr.alloc (.cells (x.enc).toArray 50)) w2))
     have hX1:SO (wr.heap.size+1) (wr.alloc (.cells (x.enc).toArray 50)) (wr.alloc (.cells (x.enc).toArray 50)):=S5 _ _
     have hX2:∀ o',SO (wr.heap.size+1) (wr.alloc (.cells (x.enc).toArray 50)) ((wr.alloc (.cells (x.enc).toArray 50)).alloc o'):=fun o'=>hX1.alloc (by simp) o'
     have KM:=h_ (fun(w1:SJ) (h:SO (wr.heap.size+1) (wr.alloc (.cells (x.enc).toArray 50)) w1) (o:Obj)=>EI.out w1 (w1.alloc o) h ((S5 _ _).alloc (SQ _) o))
     have M9:=h_ (fun(he:e2∈aevs) (w1:SJ) (h:SO wc.heap.size wc w1)=>fY x e2 w1 (Ev.keeps _ _ _ ((HB.out _ hcw).trans (h.mono (HB.out _ hcw).size)) (nD EP.out (Su hx))) (Ev.keeps _ _ _ ((HB.out _ hcw).trans (h.mono (HB.out _ hcw).size)) (HAE.out e2 he).1) (fun q hq=>(hft.2.2.2.2.2.2.2.1 q hq).2.1) (fun q hq=>((HAE.out e2 he).2.2.2.2.2.2.2.2.1 q hq).2.1) hft.2.2.2.2.2.2.2.2)
     have jh:=h_ (fun(w1:SJ) (h:SO wr.heap.size wr w1) (hp:PE x=false)=>(show ORel (IDS (k+1) 0) wc u9 w1 from by
      rw [HX.out,hp]
      exact⟨aH HO.out h,hb.trans (h.mono hb.size)⟩))
     have zU:=h_ (fun(hp:PE x=true) (W:SJ) (v':SL) (w7:SJ) (cs:Array SL) (hW:SO wr.heap.size wr W) (ho:w7.ownsRow wc.heap.size 2 1 v' ((IDS (k) 0).length+1) ((IDS (k) 0).map (SH .i64)++cs.toList)) (hcs:cs=#[.int .i64 x.id]) (hg:(W.alloc (.cells cs 2)).grownBy w7 u9.ownBlock)=>(show ORel (IDS (k+1) 0) wc v' w7 from by
      rw [HX.out,hp]
      exact ORel.push ⟨HO.out,hb⟩ hW ho hcs hg))
     have hil:=RO.out k 0
     have h63:=h_ (show(IDS (k) 0).length+1≤maxLen by have:=Ij.out;unfold maxLen;omega)
     have hby:=h_ (show((IDS (k) 0).length+1)*8≤140737488355328 by have:=Ij.out;omega)
     have hbw:=hb
     clear hP hx he2 hok hft hid h1 h2 hrel hb hil hX1
     obtain⟨M,Gt,Kz⟩:=hM
     generalize bm bevs x.id=A at *
     generalize bm aevs x.id=C at *
     generalize qg bevs aevs bcms acms x.id=D at *
     have Nb:=h_ (fun(w1:SJ) (h:SO wr.heap.size wr w1) (ha:A=true)=>jh.out w1 h (by rw [Gt,ha];rfl))
     have Na:=h_ (fun(w1:SJ) (h:SO wr.heap.size wr w1) (ha:D=false)=>jh.out w1 h (by rw [Gt,ha];cases A<;>rfl))
     have M_:=h_ (fun(w1:SJ) (h:SO wr.heap.size wr w1) (ha:M=true)=>jh.out w1 h (by rw [Gt,ha];cases A<;>cases D<;>rfl))
     have rO:=h_ (fun(h1:A=false) (h2:D=true) (h3:M=false)=>zU.out (by rw [Gt,h1,h2,h3];rfl))
     have tt:=h_ Kz
     clear Gt Kz jh zU HX
     obtain⟨xid,xin,xout,xreg,xkind,xsp,xxa,xxc,xxr⟩:=x
     obtain⟨pid,pin,pout,preg,pkind,psp,pxa,pxc,pxr⟩:=e1
     obtain⟨qid,qin,qout,qreg,qkind,qsp,qxa,qxc,qxr⟩:=e2
     have d0:=hc 0 _ rfl;have d1:=hc 1 _ rfl;have d2:=hc 2 _ rfl;have d3:=hc 3 _ rfl;have d4:=hc 4 _ rfl;have d5:=hc 5 _ rfl;have d6:=hc 6 _ rfl
     have x0:=hgx 0 _ rfl;have x1:=hgx 1 _ rfl;have x2:=hgx 2 _ rfl;have x3:=hgx 3 _ rfl;have x4:=hgx 4 _ rfl;have x5:=hgx 5 _ rfl;have x6:=hgx 6 _ rfl
     simp only [SY,Ev.enc] at d0 d1 d2 d3 d4 d5 d6 x0 x1 x2 x3 x4 x5 x6 L1 L2 HR HA EI hX2 KM M9 rO
     clear hc hgx
     cases A with
     | true =>
       go_wp2_with (at_lookup;refine aa _ rfl _ _ _ _ rfl _ _ _ rfl rfl (L1.out _ (hA1 _)) ?_)
       have mc:=h_ (fun o o_=>Nb.out _ (fU wr o o_) (by first|rfl|trivial))
       go_roundw
       case rel=>exact⟨k+1,by omega,by go_num,mc.out _ _⟩
       case measure=>simp [intOf];omega
     | false =>
       go_wp2_with (at_lookup;refine aa _ rfl _ _ _ _ rfl _ _ _ rfl rfl (L1.out _ (hA1 _)) ?_)
       refine(Nx.out _ (hA2 _ _)).mono ?_
       rintro e w2 ⟨rfl,hb2⟩
       have MI:=EI.out _ _ (hX2 _) hb2
       have hA3:=HA.out _ MI
       have HR3:=h_ (HR.out _ MI)
       clear hb2 hX2 hA1 hA2 d0 d1 d2 d3 d4 d5 d6
       cases D with
       | false =>
         go_wp2_with fail
         have mc:=h_ (Na.out _ HR3.out (by first|rfl|trivial))
         go_roundw
         case rel=>exact⟨k+1,by omega,by go_num,mc.out⟩
         case measure=>simp [intOf];omega
       | true =>
         have MH:=KM.out _ MI
         have hA4:∀ o,SO wc.heap.size wc (w2.alloc o):=fun o=>HA.out _ (MH o)
         have iz:=h_ (fun o=>HR.out _ (MH o))
         cases C with
         | false =>
           obtain rfl:M=false:=by
            rcases tt.out with h|h
            · exact h.2
            · cases h.1
           clear tt
           go_wp2_with (first
            | (at_lookup;refine aa _ rfl _ _ _ _ rfl _ _ _ rfl rfl (L2.out _ (hA3)) ?_)
            | (at_builtin;refine aI _ _ rfl (.tmp 70) (.tmp 73) 85 rfl wc.heap.size 2 j0 _ 1 8 Te JI.out J0.out J1.out J2.out rfl (by decide) _ _ _ rfl (aH HO.out (iz.out _)) _ rfl (by first|rfl|simp) rfl ?h1 h63.out hby.out (SR PM.out (iz.out _).size) ?_;(case h1=>first|rfl|(intro u hu;simp at hu;subst hu;rfl));intro v' w7 mX kk _;have mc:=h_ (rO.out (by first|rfl|trivial) (by first|rfl|trivial) (by first|rfl|trivial) _ v' w7 _ (iz.out _) mX rfl kk);clear mX kk))
           go_roundw
           case rel=>exact⟨k+1,by omega,by go_num,mc.out⟩
           case measure=>simp [intOf];omega
         | true =>
           obtain⟨hMe,hmem⟩:M=evEq ⟨xid,xin,xout,xreg,xkind,xsp,xxa,xxc,xxr⟩ ⟨qid,qin,qout,qreg,qkind,qsp,qxa,qxc,qxr⟩∧(⟨qid,qin,qout,qreg,qkind,qsp,qxa,qxc,qxr⟩:Ev)∈aevs:=by
            rcases tt.out with h|h
            · cases h.1
            · exact h.2
           have uR:=h_ hmem
           rw [←hMe] at M9
           clear tt hmem hMe
           go_wp2_with (at_lookup;refine aa _ rfl _ _ _ _ rfl _ _ _ rfl rfl (L2.out _ (hA3)) ?_)
           refine(M9.out uR.out _ (hA4 _)).mono ?_
           rintro e w3 ⟨rfl,hb3⟩
           have hX5:=EI.out _ _ (MH _) hb3
           have hA5:=HA.out _ hX5
           have Nu:=h_ (HR.out _ hX5)
           clear hb3
           cases M with
           | true =>
             go_wp2_with fail
             have mc:=h_ (M_.out _ (HR.out _ hX5) (by first|rfl|trivial))
             go_roundw
             case rel=>exact⟨k+1,by omega,by go_num,mc.out⟩
             case measure=>simp [intOf];omega
           | false =>
             go_wp2_with (first
              | (at_lookup;refine aa _ rfl _ _ _ _ rfl _ _ _ rfl rfl (L2.out _ (hA3)) ?_)
              | (at_builtin;refine aI _ _ rfl (.tmp 70) (.tmp 73) 85 rfl wc.heap.size 2 j0 _ 1 8 Te JI.out J0.out J1.out J2.out rfl (by decide) _ _ _ rfl (aH HO.out (Nu.out)) _ rfl (by first|rfl|simp) rfl ?h1 h63.out hby.out (SR PM.out (Nu.out).size) ?_;(case h1=>first|rfl|(intro u hu;simp at hu;subst hu;rfl));intro v' w7 mX kk _;have mc:=h_ (rO.out (by first|rfl|trivial) (by first|rfl|trivial) (by first|rfl|trivial) _ v' w7 _ (Nu.out) mX rfl kk);clear mX kk))
             go_roundw
             case rel=>exact⟨k+1,by omega,by go_num,mc.out⟩
             case measure=>simp [intOf];omega
   · obtain rfl:k=devs.length:=by omega
     have hkb:=hrel.2
     have hw1:SO wc.heap.size wc wr:=hkb
     have kC:=h_ hrel
     clear hrel
     go_wp2_with fail
     go_loopw [9,79] (fun v i wr=>∃ k:Nat,k≤dcms.length∧i=.int .i64 k∧ORel (IDS devs.length k) wc v wr) (fun _ i _=>dcms.length-(intOf i).toNat)
     case atStart=>exact⟨0,by omega,rfl,kC.out⟩
     case round =>
      clear kC hkb hw1 hk hlt
      obtain⟨k,hk,rfl,hrel⟩:=hrel
      by_cases hlt:k<dcms.length
      · have hb:=hrel.2
        have PM:=h_ hb.size
        have HO:=h_ hrel.1
        have hws:=hb.size
        obtain⟨b,off,x,rfl,hbl,hx,hc,hok⟩:=((EX.out.later (HB.out _ hcw)).later hb).at_ hlt
        have hft:=JX.out x (Su hx)
        have hid:i64 x.id:=hft.1
        have hA1:∀ o,SO wc.heap.size wc (wr.alloc o):=fun o=>hb.alloc hb.size o
        have hA2:∀ o o',SO wc.heap.size wc ((wr.alloc o).alloc o'):=fun o o'=>(hA1 o).alloc (hA1 o).size o'
        obtain⟨e1,h1,_⟩:=Dd KA.cm hid
        obtain⟨e2,h2,he2⟩:=Dd KB.cm hid
        have L1:=h_ (fun(w1:SJ) (h:SO wc.heap.size wc w1)=>h1 w1 (h.block _ KA.cm.lt))
        have L2:=h_ (fun(w1:SJ) (h:SO wc.heap.size wc w1)=>h2 w1 (h.block _ KB.cm.lt))
        have Nx:=h_ (fun(w1:SJ) (h:SO wc.heap.size wc w1)=>vF b1 b2 c1 c2 n n bevs aevs bcms acms x.id w1 (KA.later h) (KB.later h) hid)
        have hP:=HPC.out x
        have hM:∃ M:Bool,PC x=(!bo bcms x.id&&(qg bevs aevs bcms acms x.id&&!M))∧((bo acms x.id=false∧M=false)∨(bo acms x.id=true∧M=cmEq x e2∧e2∈acms)):=by
         unfold bo at *
         cases bn:acms.find? (fun y=>y.id==x.id) with
         | none =>
           rw [bn] at hP
           exact⟨false,hP,.inl ⟨rfl,rfl⟩⟩
         | some y =>
           rw [bn] at hP he2
           obtain rfl:e2=y:=he2
           exact⟨cmEq x e2,hP,.inr ⟨rfl,rfl,Sw bn⟩⟩
        have HX:=h_ (HIC.out k x hx)
        have hgx:=fun j v h=>ag wr (x.enc).toArray 52 j v h
        have HR:=h_ (fun w1 (h:SO (wr.heap.size+1) (wr.alloc (.cells (x.enc).toArray 52)) w1)=>(((S5 wr.heap.size wr).alloc (SQ _) _).trans (h.mono (by omega)):SO wr.heap.size wr w1))
        have HA:=h_ (fun w1 (h:SO (wr.heap.size+1) (wr.alloc (.cells (x.enc).toArray 52)) w1)=>(hb.trans ((HR.out w1 h).mono hb.size):SO wc.heap.size wc w1))
        have EI:=h_ (fun(w1 w2:SJ) (h:SO (wr.heap.size+1) (wr.alloc (.cells (x.enc).toArray 52)) w1) (h2:SO w1.heap.size w1 w2)=>(h.trans (h2.mono (by have:=h.size;rw [Ta] at this;exact this)):SO (wr.heap.size+1) (wr.alloc (.cells (x.enc).toArray 52)) w2))
        have hX1:SO (wr.heap.size+1) (wr.alloc (.cells (x.enc).toArray 52)) (wr.alloc (.cells (x.enc).toArray 52)):=S5 _ _
        have hX2:∀ o',SO (wr.heap.size+1) (wr.alloc (.cells (x.enc).toArray 52)) ((wr.alloc (.cells (x.enc).toArray 52)).alloc o'):=fun o'=>hX1.alloc (by simp) o'
        have KM:=h_ (fun(w1:SJ) (h:SO (wr.heap.size+1) (wr.alloc (.cells (x.enc).toArray 52)) w1) (o:Obj)=>EI.out w1 (w1.alloc o) h ((S5 _ _).alloc (SQ _) o))
        have M9:=h_ (fun wx=>oP x e2 wx)
        have jh:=h_ (fun(w1:SJ) (h:SO wr.heap.size wr w1) (hp:PC x=false)=>(show ORel (IDS devs.length (k+1)) wc u9 w1 from by
         rw [HX.out,hp]
         exact⟨aH HO.out h,hb.trans (h.mono hb.size)⟩))
        have zU:=h_ (fun(hp:PC x=true) (W:SJ) (v':SL) (w7:SJ) (cs:Array SL) (hW:SO wr.heap.size wr W) (ho:w7.ownsRow wc.heap.size 2 1 v' ((IDS devs.length (k)).length+1) ((IDS devs.length (k)).map (SH .i64)++cs.toList)) (hcs:cs=#[.int .i64 x.id]) (hg:(W.alloc (.cells cs 2)).grownBy w7 u9.ownBlock)=>(show ORel (IDS devs.length (k+1)) wc v' w7 from by
         rw [HX.out,hp]
         exact ORel.push ⟨HO.out,hb⟩ hW ho hcs hg))
        have hil:=RO.out devs.length k
        have h63:=h_ (show(IDS devs.length (k)).length+1≤maxLen by have:=Ij.out;unfold maxLen;omega)
        have hby:=h_ (show((IDS devs.length (k)).length+1)*8≤140737488355328 by have:=Ij.out;omega)
        have hbw:=hb
        clear hP hx he2 hok hft hid h1 h2 hrel hb hil hX1
        obtain⟨M,Gt,Kz⟩:=hM
        generalize bo bcms x.id=A at *
        generalize bo acms x.id=C at *
        generalize qg bevs aevs bcms acms x.id=D at *
        have Nb:=h_ (fun(w1:SJ) (h:SO wr.heap.size wr w1) (ha:A=true)=>jh.out w1 h (by rw [Gt,ha];rfl))
        have Na:=h_ (fun(w1:SJ) (h:SO wr.heap.size wr w1) (ha:D=false)=>jh.out w1 h (by rw [Gt,ha];cases A<;>rfl))
        have M_:=h_ (fun(w1:SJ) (h:SO wr.heap.size wr w1) (ha:M=true)=>jh.out w1 h (by rw [Gt,ha];cases A<;>cases D<;>rfl))
        have rO:=h_ (fun(h1:A=false) (h2:D=true) (h3:M=false)=>zU.out (by rw [Gt,h1,h2,h3];rfl))
        have tt:=h_ Kz
        clear Gt Kz jh zU HX
        obtain⟨xid,xcev,xfrm,xtil,xau,xtx,xdn,xlo⟩:=x
        obtain⟨pid,pcev,pfrm,ptil,pau,ptx,pdn,plo⟩:=e1
        obtain⟨qid,qcev,qfrm,qtil,qau,qtx,qdn,qlo⟩:=e2
        have d0:=hc 0 _ rfl;have d1:=hc 1 _ rfl;have d2:=hc 2 _ rfl;have d3:=hc 3 _ rfl;have d4:=hc 4 _ rfl;have d5:=hc 5 _ rfl;have d6:=hc 6 _ rfl;have d7:=hc 7 _ rfl
        have x0:=hgx 0 _ rfl;have x1:=hgx 1 _ rfl;have x2:=hgx 2 _ rfl;have x3:=hgx 3 _ rfl;have x4:=hgx 4 _ rfl;have x5:=hgx 5 _ rfl;have x6:=hgx 6 _ rfl;have x7:=hgx 7 _ rfl
        simp only [SY,Cm.enc] at d0 d1 d2 d3 d4 d5 d6 d7 x0 x1 x2 x3 x4 x5 x6 x7 L1 L2 HR HA EI hX2 KM M9 rO
        clear hc hgx
        cases A with
        | true =>
          go_wp2_with (at_lookup;refine aa _ rfl _ _ _ _ rfl _ _ _ rfl rfl (L1.out _ (hA1 _)) ?_)
          have mc:=h_ (fun o o_=>Nb.out _ (fU wr o o_) (by first|rfl|trivial))
          go_roundw
          case rel=>exact⟨k+1,by omega,by go_num,mc.out _ _⟩
          case measure=>simp [intOf];omega
        | false =>
          go_wp2_with (at_lookup;refine aa _ rfl _ _ _ _ rfl _ _ _ rfl rfl (L1.out _ (hA1 _)) ?_)
          refine(Nx.out _ (hA2 _ _)).mono ?_
          rintro e w2 ⟨rfl,hb2⟩
          have MI:=EI.out _ _ (hX2 _) hb2
          have hA3:=HA.out _ MI
          have HR3:=h_ (HR.out _ MI)
          clear hb2 hX2 hA1 hA2 d0 d1 d2 d3 d4 d5 d6 d7
          cases D with
          | false =>
            go_wp2_with fail
            have mc:=h_ (Na.out _ HR3.out (by first|rfl|trivial))
            go_roundw
            case rel=>exact⟨k+1,by omega,by go_num,mc.out⟩
            case measure=>simp [intOf];omega
          | true =>
            have MH:=KM.out _ MI
            have hA4:∀ o,SO wc.heap.size wc (w2.alloc o):=fun o=>HA.out _ (MH o)
            have iz:=h_ (fun o=>HR.out _ (MH o))
            cases C with
            | false =>
              obtain rfl:M=false:=by
               rcases tt.out with h|h
               · exact h.2
               · cases h.1
              clear tt
              go_wp2_with (first
               | (at_lookup;refine aa _ rfl _ _ _ _ rfl _ _ _ rfl rfl (L2.out _ (hA3)) ?_)
               | (at_builtin;refine aI _ _ rfl (.tmp 115) (.tmp 118) 85 rfl wc.heap.size 2 j0 _ 1 8 Te JI.out J0.out J1.out J2.out rfl (by decide) _ _ _ rfl (aH HO.out (iz.out _)) _ rfl (by first|rfl|simp) rfl ?h1 h63.out hby.out (SR PM.out (iz.out _).size) ?_;(case h1=>first|rfl|(intro u hu;simp at hu;subst hu;rfl));intro v' w7 mX kk _;have mc:=h_ (rO.out (by first|rfl|trivial) (by first|rfl|trivial) (by first|rfl|trivial) _ v' w7 _ (iz.out _) mX rfl kk);clear mX kk))
              go_roundw
              case rel=>exact⟨k+1,by omega,by go_num,mc.out⟩
              case measure=>simp [intOf];omega
            | true =>
              obtain⟨hMe,hmem⟩:M=cmEq ⟨xid,xcev,xfrm,xtil,xau,xtx,xdn,xlo⟩ ⟨qid,qcev,qfrm,qtil,qau,qtx,qdn,qlo⟩∧(⟨qid,qcev,qfrm,qtil,qau,qtx,qdn,qlo⟩:Cm)∈acms:=by
               rcases tt.out with h|h
               · cases h.1
               · exact h.2
              have uR:=h_ hmem
              rw [←hMe] at M9
              clear tt hmem hMe
              have hcmp:=M9.out
              cases M with
              | true =>
                go_wp2_with (at_lookup;refine aa _ rfl _ _ _ _ rfl _ _ _ rfl rfl (L2.out _ (hA3)) ?_)
                have mc:=h_ (fun o=>M_.out _ (HR.out _ (MH o)) (by first|rfl|trivial))
                go_roundw
                case rel=>exact⟨k+1,by omega,by go_num,mc.out _⟩
                case measure=>simp [intOf];omega
              | false =>
                go_wp2_with (first
                 | (at_lookup;refine aa _ rfl _ _ _ _ rfl _ _ _ rfl rfl (L2.out _ (hA3)) ?_)
                 | (at_builtin;refine aI _ _ rfl (.tmp 115) (.tmp 118) 85 rfl wc.heap.size 2 j0 _ 1 8 Te JI.out J0.out J1.out J2.out rfl (by decide) _ _ _ rfl (aH HO.out (iz.out _)) _ rfl (by first|rfl|simp) rfl ?h1 h63.out hby.out (SR PM.out (iz.out _).size) ?_;(case h1=>first|rfl|(intro u hu;simp at hu;subst hu;rfl));intro v' w7 mX kk _;have mc:=h_ (rO.out (by first|rfl|trivial) (by first|rfl|trivial) (by first|rfl|trivial) _ v' w7 _ (iz.out _) mX rfl kk);clear mX kk))
                go_roundw
                case rel=>exact⟨k+1,by omega,by go_num,mc.out⟩
                case measure=>simp [intOf];omega
      · obtain rfl:k=dcms.length:=by omega
        obtain⟨ho,NR⟩:=hrel
        obtain⟨av,cv,rfl⟩:∃ a c,u9=.slice a (IDS devs.length dcms.length).length c:=by
         rcases ho.2 with⟨rfl,h0⟩|⟨g,cap,_,rfl,_⟩
         · exact⟨none,0,by rw [h0]⟩
         · exact⟨_,_,rfl⟩
        have hil:=RO.out devs.length dcms.length
        have fD:=h_ (gR wc.heap.size _ _ wr ho (by omega) NR.size)
        have tG:=h_ (show(aR (IDS devs.length dcms.length)).length≤8000000 by unfold aR;rw [List.length_mergeSort];omega)
        have Ah:=h_ NR
        have hlw:=NR.size
        have RE:=h_ HQ.out
        generalize IDS devs.length dcms.length=ids at *
        clear ho NR hil HIE HIC RO HI0 HPE HPC HAE Hn JX EP EX k70 k71 k80 k81
        go_wp2_with fail
        refine fD.out.mono ?_
        rintro e w2 ⟨rfl,ho2,hb2⟩
        have hc2:=Ah.out.trans hb2
        have kH:=h_ ho2
        have rP:=h_ hc2
        have hA2:∀ o,SO wc.heap.size wc (w2.alloc o):=fun o=>hc2.alloc hc2.size o
        clear ho2 hb2 fD
        go_wp2_with fail
        refine(qb wc.heap.size _ _ _ (aH kH.out ((S5 _ _).alloc (SQ _) _)) tG.out).mono ?_
        rintro e w3 ⟨v3,rfl,ho3,hob,hb3,hk3⟩
        have hmw:wc.heap.size≤w2.heap.size:=rP.out.size
        have hlt2:=fun b (e:(SL.slice av ids.length cv).ownBlock=some b)=>(kH.out.lt b e).2
        have zW:=h_ ((VMap.made w2).kept (hk3.block w2.heap.size (by simp) (fun e=>SX _ (hlt2 _ e))))
        have hmb:w2.heap.size<w3.heap.size:=by have:=hk3.size;simp at this;omega
        have HNB:=h_ (fun(e:v3.ownBlock=some w2.heap.size)=>SX _ (hlt2 _ (hob.symm.trans e)))
        have HC3:=h_ ((hA2 _).trans hb3:SO wc.heap.size wc w3)
        have HI6:=h_ (fun z (hz:z∈Tf (aR ids))=>EO.out z (((i_ ids).2 z).1 hz))
        have qX:=h_ (show(Tf (aR ids)).length≤8000000 from SR (Lib.compact_length_le _) tG.out)
        generalize Tf (aR ids)=C at *
        obtain⟨a3,c3,rfl⟩:∃ a c,v3=.slice a C.length c:=by
         rcases ho3.2 with⟨rfl,h0⟩|⟨g,cap,_,rfl,_⟩
         · exact⟨none,0,by rw [h0]⟩
         · exact⟨_,_,rfl⟩
        have qW:=h_ ho3
        generalize hL0:max ala dla=L0 at *
        have hL1:0≤L0:=by omega
        have hL2:L0≤1099511627776:=by omega
        have hcl:=qX.out
        clear hL0 ho3 hob hb3 hk3 hlt2 kH rP tG hA2 EO ka kd hla hld
        generalize w2.heap.size=mb at *
        go_wp2_with fail
        go_loopw [23,132] (fun nx i wr=>∃ k:Nat,k≤C.length∧i=.int .i64 k∧nx=.int .i64 (L0+k)∧VMap wr mb k (fun z=>(mC C L0 k z).map (SH .i64))∧Kept (fun b=>b=mb) w3 wr) (fun _ i _=>C.length-(intOf i).toNat)
        case atStart=>exact⟨0,by omega,rfl,by simp,zW.out,Kept.refl _ _⟩
        case round =>
         clear zW
         obtain⟨k,hk,rfl,rfl,hM,hK⟩:=hrel
         by_cases hlt:k<C.length
         · have hown:=ah qW.out (fun b e=>hK.block b (qW.out.lt b e).2 (fun e2=>HNB.out (by rw [e,e2])))
           obtain⟨gC,cC,he⟩:=kZ hown (by omega)
           simp only [SL.slice.injEq,true_and] at he
           obtain⟨rfl,rfl⟩:=he
           obtain⟨z,hz⟩:∃ z,C[k]? =some z:=⟨_,List.getElem?_eq_getElem hlt⟩
           have hc0:wr.cell? ⟨gC,k,none⟩=some (.int .i64 z):=by
            rw [hown.cellAt k (by simpa using hlt),List.getElem?_map,hz]
            rfl
           have HZ:=h_ (HI6.out z (Su hz))
           have tt:=h_ hM
           have HKK:=h_ hK
           have Cr:=h_ (Ft C L0 k z hz)
           have NM:IntKind.i64.wrap (L0+k+1)=L0+k+1:=wrap64_in (by omega) (by omega)
           clear hown hz hM hK
           go_wp2_with (at_mapUpdate;refine iQ _ rfl _ _ _ 137 2 rfl Tryz.underlying137 mb k _ rfl tt.out (by unfold maxLen;omega) _ rfl HZ.out (.int .i64 (L0+k+1)) rfl ?_;intro w5 h5 hg5;have EM:=h_ h5;have HG5:=h_ hg5;clear h5 hg5)
           go_roundw
           case rel=>exact⟨k+1,by omega,by go_num,by simp;omega,by rw [←Cr.out];exact EM.out,HKK.out.andGrown HG5.out (fun j hj _=>(Option.some.inj hj).symm)⟩
           case measure=>simp [intOf];omega
         · obtain rfl:k=C.length:=by omega
           have tt:=h_ hM
           have HKK:=h_ hK
           clear hM hK
           go_wp2_with fail
           rw [←RE.out]
           exact⟨mb,rfl,tt.out,SR (HB.out _ QB.out).size hmw,(HB.out _ QB.out).trans (((HC3.out.mono (HB.out _ QB.out).size)).trans (HKK.out.below (SR (HB.out _ QB.out).size HC3.out.size) (fun j hj e=>by have:=(HB.out _ QB.out).size;omega)))⟩
end Go.Proofs.YtnlnmbcaongehaaGreatDoor
namespace Go.Proofs.YtnlnmbcaongehaaGreatDoor
open Go.RowKit
theorem rA (f:ByteArray)(w:SJ):SN Td 127 #[.string f] w fun e w'=>e=.returned (.agg (⟨1,0,aG,f⟩:Cl).enc.toArray)∧SO w.heap.size w w':=by
 simp only [Cl.enc,aG]
 have hk:=fun(o:Array SL)=>SK w (.cells o 135)
 go_enter Tryz.func127,Tryz.ntmps127
 go_wp2_with fail
 refine bodyPost_ret (v:=.agg #[.int .u8 1,.int .i64 0,.string ⟨#[]⟩,.string f]) (by simp [results,Tryz.results127,go_sem]) rfl ⟨rfl,?_⟩
 exact(S5 _ _).alloc (SQ _) _
structure HSt (w:SJ)(g:Nat)(X Y Z arr:Array SL)(cls:List Cl)(wr:SJ):Prop where
 x:wr.heap[w.heap.size]? =some (.cells X 27 (0,0))
 y:wr.heap[w.heap.size+1]? =some (.cells Y 27 (0,0))
 z:wr.heap[w.heap.size+1+1]? =some (.cells Z 27 (0,0))
 cl:∃ kv,ClAt (w.heap.size+3) g arr kv cls wr
 kept:Kept (fun b=>b=g) w wr
section
variable {w wr w':SJ} {g:Nat} {X Y Z arr:Array SL} {cls:List Cl}
theorem HSt.lt (h:HSt w g X Y Z arr cls wr):w.heap.size+1+1<wr.heap.size:=(S_.1 h.z).1
theorem HSt.gcells (h:HSt w g X Y Z arr cls wr):wr.heap[g]? =some (.cells arr 142 (0,0)):=by
 obtain⟨kv,hk⟩:=h.cl
 exact hk.cells
theorem HSt.later (h:HSt w g X Y Z arr cls wr)(hb:SO wr.heap.size wr w'):HSt w g X Y Z arr cls w':=by
 have hl:=h.lt
 obtain⟨kv,hk⟩:=h.cl
 exact⟨(hb.block _ (by omega)).trans h.x,(hb.block _ (by omega)).trans h.y,(hb.block _ (by omega)).trans h.z,⟨kv,hk.later hb⟩,h.kept.andBelow hb⟩
theorem HSt.set (h:HSt w g X Y Z arr cls wr)(hg:g<w.heap.size)(j:Nat)(hj:j≠8)(u:SL):HSt w g X Y Z (arr.setIfInBounds j u) cls (wr.setCell ⟨g,j,none⟩ u):=by
 have hs:∀ b,b≠g→(wr.setCell ⟨g,j,none⟩ u).heap[b]? =wr.heap[b]?:=fun b hb=>S6 _ _ _ _ hb
 obtain⟨kv,hk⟩:=h.cl
 refine⟨(hs _ (by omega)).trans h.x,(hs _ (by omega)).trans h.y,(hs _ (by omega)).trans h.z,⟨kv,SM _ _ _ _ _ _ hk.cells,?_,ah hk.own fun b hb=>hs b (fun e=>hk.apart (by rw [hb,e])),hk.apart⟩,h.kept.setCell (.inr rfl) _⟩
 rw [Array.getElem?_setIfInBounds,if_neg hj]
 exact hk.atIx
theorem HSt.clash (h:HSt w g X Y Z arr cls wr)(hg:g<w.heap.size)(hl:cls.length≤1000)(is:Bool)(c:Cl):SN Td 130 #[.pointer (some ⟨g,0,none⟩),.bool is,.agg c.enc.toArray] wr fun e w'=>e=.returned (.tuple #[])∧∃ kv',HSt w g X Y Z (arr.setIfInBounds 8 kv') (cls++clIf is c) w':=by
 have hlt:=h.lt
 obtain⟨kv,hk⟩:=h.cl
 refine(lW _ _ arr kv cls is c wr hk (by omega) (by omega)).mono fun e w' p=>?_
 obtain⟨he,v',q1,q2,q3⟩:=p
 have hb:∀ b,kv.ownBlock=some b→w.heap.size+3≤b:=fun b hb=>(hk.own.lt b hb).1
 have hkp:∀ b,b<wr.heap.size→b≠g→b<w.heap.size+3→w'.heap[b]? =wr.heap[b]?:=fun b h1 h2 h3=>q2.block b h1 fun hm=>by
  rcases hm with hm|hm
  · exact h2 hm
  · have:=hb b hm
    omega
 refine⟨he,v',(hkp _ (by omega) (by omega) (by omega)).trans h.x,(hkp _ (by omega) (by omega) (by omega)).trans h.y,(hkp _ (by omega) (by omega) (by omega)).trans h.z,⟨v',q1⟩,h.kept.trans q2 fun i hi hm=>?_⟩
 rcases hm with hm|hm
 · exact hm
 · have:=hb i hm
   omega
end
theorem nI (b:Bool)(c:Cl):(clIf b c).length≤1:=by cases b<;>simp [clIf]
def Dn (x y z:Hd)(la:Int)(g:Nat)(w:SJ)(e:Ending)(w':SJ):Prop:=e=.returned (.tuple #[])∧∃ kv,ClAt w.heap.size g #[.string (oG x y z).1,.string (sq x y z).1,.int .u8 (oZ x y z).1.1,.bool (oZ x y z).1.2,.int .i64 la,.slice none 0 0,.slice none 0 0,.slice none 0 0,kv] kv (sr x y z) w'∧Kept (fun b=>b=g) w w'
theorem tT (x y z:Doc)(g:Nat)(la:Int)(w:SJ)(hg:w.heap[g]? =some (.cells #[SG ⟨#[]⟩,.string ⟨#[]⟩,.int .u8 0,.bool false,.int .i64 la,.slice none 0 0,.slice none 0 0,.slice none 0 0,.slice none 0 0] 142 (0,0))) :
 SN Td 77 #[.pointer (some ⟨g,0,none⟩),.agg x.enc.toArray,.agg y.enc.toArray,.agg z.enc.toArray] w (Dn x.hd y.hd z.hd la g w):=by
 have hgl:g<w.heap.size:=(S_.1 hg).1
 have M3:=h_ (fun w1=>e_ x.title y.title z.title w1)
 have Ia:=h_ (fun w1=>e_ x.lang y.lang z.lang w1)
 have H_:=h_ (fun w1=>rZ (x.rate,x.drop) (y.rate,y.drop) (z.rate,z.drop) w1)
 have e1:aF fH x.title y.title z.title=oG x.hd y.hd z.hd:=rfl
 have e2:aF fH x.lang y.lang z.lang=sq x.hd y.hd z.hd:=rfl
 have e3:aF gX (x.rate,x.drop) (y.rate,y.drop) (z.rate,z.drop)=oZ x.hd y.hd z.hd:=rfl
 rw [e1] at M3
 rw [e2] at Ia
 rw [e3] at H_
 have HQ:Hid (∀ (s1 s2:ByteArray) (s3:Int) (s4 c1 c2 c3:Bool),oG x.hd y.hd z.hd=(s1,c1)→sq x.hd y.hd z.hd=(s2,c2)→oZ x.hd y.hd z.hd=((s3,s4),c3)→∀ kv w',ClAt w.heap.size g #[SG s1,.string s2,.int .u8 s3,.bool s4,.int .i64 la,.slice none 0 0,.slice none 0 0,.slice none 0 0,kv] kv (clIf c1 ⟨1,0,aG,mZ⟩++clIf c2 ⟨1,0,aG,zA⟩++clIf c3 ⟨1,0,aG,Gz⟩) w'→Kept (fun b=>b=g) w w'→Dn x.hd y.hd z.hd la g w (.returned (.tuple #[])) w'):=h_ (fun s1 s2 s3 s4 c1 c2 c3 h1 h2 h3 kv w' hc hk=>by
  refine⟨rfl,kv,?_,hk⟩
  unfold sr
  rw [h1,h2,h3]
  exact hc)
 clear e1 e2 e3
 generalize Dn x.hd y.hd z.hd la g w=Q at *
 generalize oG x.hd y.hd z.hd=p1 at *
 generalize sq x.hd y.hd z.hd=p2 at *
 generalize oZ x.hd y.hd z.hd=p3 at *
 obtain⟨s1,c1⟩:=p1
 obtain⟨s2,c2⟩:=p2
 obtain⟨⟨s3,s4⟩,c3⟩:=p3
 have HST:=h_ (show HSt w g x.enc.toArray y.enc.toArray z.enc.toArray #[SG ⟨#[]⟩,.string ⟨#[]⟩,.int .u8 0,.bool false,.int .i64 la,.slice none 0 0,.slice none 0 0,.slice none 0 0,.slice none 0 0] [] (((w.alloc (.cells x.enc.toArray 27)).alloc (.cells y.enc.toArray 27)).alloc (.cells z.enc.toArray 27)) from by
  have hb:=box3 w x.enc.toArray y.enc.toArray z.enc.toArray 27 _ (S5 _ _)
  refine⟨hb.1,hb.2.1,hb.2.2,⟨.slice none 0 0,?_,rfl,Tb _ _ _ _,by simp [SL.ownBlock]⟩,Kept.of_below (mJ w _ _ _)⟩
  rw [(mJ w _ _ _).block g hgl]
  exact hg)
 have HF:=h_ (fun(f:ByteArray) (w1:SJ)=>rA f w1)
 obtain⟨xt,xl,xr,xd,xla,xra,xrc,xregs,xea,xec,xevs,xca,xcc,xcms⟩:=x
 obtain⟨yt,yl,yr,yd,yla,yra,yrc,yregs,yea,yec,yevs,yca,ycc,ycms⟩:=y
 obtain⟨zt,zl,zr,zd,zla,zra,zrc,zregs,zea,zec,zevs,zca,zcc,zcms⟩:=z
 simp only [Doc.enc,aX,Cl.enc] at *
 clear hg
 go_enter Tryz.func77,Tryz.ntmps77
 go_wp2_with fail
 refine(M3.out _).mono ?_
 rintro e w1 ⟨rfl,hb1⟩
 have lF:=h_ (HST.out.later hb1)
 clear hb1 HST M3
 have fx1:∀ j,w1.cell? ⟨w.heap.size,j,none⟩=_:=fun j=>SI _ _ j _ 27 (0,0) lF.out.x
 have fy1:∀ j,w1.cell? ⟨w.heap.size+1,j,none⟩=_:=fun j=>SI _ _ j _ 27 (0,0) lF.out.y
 have fz1:∀ j,w1.cell? ⟨w.heap.size+1+1,j,none⟩=_:=fun j=>SI _ _ j _ 27 (0,0) lF.out.z
 have fg1:∀ j,w1.cell? ⟨g,j,none⟩=_:=fun j=>SI _ _ j _ 142 (0,0) lF.out.gcells
 have zg1:∀ j,w1.frozen? ⟨g,j,none⟩=false:=fun j=>by simp [Tc,lF.out.gcells]
 go_wp2_with fail
 have HS2:=h_ (show HSt w g #[SG xt,.string xl,.int .u8 xr,.bool xd,.int .i64 xla,.slice xra xregs.length xrc,.slice xea xevs.length xec,.slice xca xcms.length xcc] #[SG yt,.string yl,.int .u8 yr,.bool yd,.int .i64 yla,.slice yra yregs.length yrc,.slice yea yevs.length yec,.slice yca ycms.length ycc] #[SG zt,.string zl,.int .u8 zr,.bool zd,.int .i64 zla,.slice zra zregs.length zrc,.slice zea zevs.length zec,.slice zca zcms.length zcc] #[SG s1,.string ⟨#[]⟩,.int .u8 0,.bool false,.int .i64 la,.slice none 0 0,.slice none 0 0,.slice none 0 0,.slice none 0 0] ([]) (w1.setCell ⟨g,0,none⟩ (.string s1)) from lF.out.set hgl 0 (by decide) _)
 clear lF fx1 fy1 fz1 fg1 zg1
 refine(HF.out mZ _).mono ?_
 rintro e w3 ⟨rfl,hb3⟩
 have xR:=h_ (HS2.out.later hb3)
 clear hb3 HS2
 go_wp2_with fail
 refine(xR.out.clash hgl (by simp) c1 ⟨1,0,aG,mZ⟩).mono ?_
 rintro e w4 ⟨rfl,k4,hs4⟩
 have xQ:=h_ (show HSt w g #[SG xt,.string xl,.int .u8 xr,.bool xd,.int .i64 xla,.slice xra xregs.length xrc,.slice xea xevs.length xec,.slice xca xcms.length xcc] #[SG yt,.string yl,.int .u8 yr,.bool yd,.int .i64 yla,.slice yra yregs.length yrc,.slice yea yevs.length yec,.slice yca ycms.length ycc] #[SG zt,.string zl,.int .u8 zr,.bool zd,.int .i64 zla,.slice zra zregs.length zrc,.slice zea zevs.length zec,.slice zca zcms.length zcc] #[SG s1,.string ⟨#[]⟩,.int .u8 0,.bool false,.int .i64 la,.slice none 0 0,.slice none 0 0,.slice none 0 0,k4] (clIf c1 ⟨1,0,aG,mZ⟩) w4 from hs4)
 clear hs4 xR
 have fx4:∀ j,w4.cell? ⟨w.heap.size,j,none⟩=_:=fun j=>SI _ _ j _ 27 (0,0) xQ.out.x
 have fy4:∀ j,w4.cell? ⟨w.heap.size+1,j,none⟩=_:=fun j=>SI _ _ j _ 27 (0,0) xQ.out.y
 have fz4:∀ j,w4.cell? ⟨w.heap.size+1+1,j,none⟩=_:=fun j=>SI _ _ j _ 27 (0,0) xQ.out.z
 have fg4:∀ j,w4.cell? ⟨g,j,none⟩=_:=fun j=>SI _ _ j _ 142 (0,0) xQ.out.gcells
 have zg4:∀ j,w4.frozen? ⟨g,j,none⟩=false:=fun j=>by simp [Tc,xQ.out.gcells]
 go_wp2_with fail
 refine(Ia.out _).mono ?_
 rintro e w5 ⟨rfl,hb5⟩
 have xP:=h_ (xQ.out.later hb5)
 clear hb5 xQ Ia fx4 fy4 fz4 fg4 zg4
 have fx5:∀ j,w5.cell? ⟨w.heap.size,j,none⟩=_:=fun j=>SI _ _ j _ 27 (0,0) xP.out.x
 have fy5:∀ j,w5.cell? ⟨w.heap.size+1,j,none⟩=_:=fun j=>SI _ _ j _ 27 (0,0) xP.out.y
 have fz5:∀ j,w5.cell? ⟨w.heap.size+1+1,j,none⟩=_:=fun j=>SI _ _ j _ 27 (0,0) xP.out.z
 have fg5:∀ j,w5.cell? ⟨g,j,none⟩=_:=fun j=>SI _ _ j _ 142 (0,0) xP.out.gcells
 have zg5:∀ j,w5.frozen? ⟨g,j,none⟩=false:=fun j=>by simp [Tc,xP.out.gcells]
 go_wp2_with fail
 have Du:=h_ (show HSt w g #[SG xt,.string xl,.int .u8 xr,.bool xd,.int .i64 xla,.slice xra xregs.length xrc,.slice xea xevs.length xec,.slice xca xcms.length xcc] #[SG yt,.string yl,.int .u8 yr,.bool yd,.int .i64 yla,.slice yra yregs.length yrc,.slice yea yevs.length yec,.slice yca ycms.length ycc] #[SG zt,.string zl,.int .u8 zr,.bool zd,.int .i64 zla,.slice zra zregs.length zrc,.slice zea zevs.length zec,.slice zca zcms.length zcc] #[SG s1,.string s2,.int .u8 0,.bool false,.int .i64 la,.slice none 0 0,.slice none 0 0,.slice none 0 0,k4] (clIf c1 ⟨1,0,aG,mZ⟩) (w5.setCell ⟨g,1,none⟩ (.string s2)) from xP.out.set hgl 1 (by decide) _)
 clear xP fx5 fy5 fz5 fg5 zg5
 refine(HF.out zA _).mono ?_
 rintro e w7 ⟨rfl,lO⟩
 have Ib:=h_ (Du.out.later lO)
 clear lO Du
 go_wp2_with fail
 refine(Ib.out.clash hgl (by have:=nI c1 ⟨1,0,aG,mZ⟩;omega) c2 ⟨1,0,aG,zA⟩).mono ?_
 rintro e w8 ⟨rfl,k8,Kp⟩
 have Ab:=h_ (show HSt w g #[SG xt,.string xl,.int .u8 xr,.bool xd,.int .i64 xla,.slice xra xregs.length xrc,.slice xea xevs.length xec,.slice xca xcms.length xcc] #[SG yt,.string yl,.int .u8 yr,.bool yd,.int .i64 yla,.slice yra yregs.length yrc,.slice yea yevs.length yec,.slice yca ycms.length ycc] #[SG zt,.string zl,.int .u8 zr,.bool zd,.int .i64 zla,.slice zra zregs.length zrc,.slice zea zevs.length zec,.slice zca zcms.length zcc] #[SG s1,.string s2,.int .u8 0,.bool false,.int .i64 la,.slice none 0 0,.slice none 0 0,.slice none 0 0,k8] (clIf c1 ⟨1,0,aG,mZ⟩++clIf c2 ⟨1,0,aG,zA⟩) w8 from Kp)
 clear Kp Ib
 have fx8:∀ j,w8.cell? ⟨w.heap.size,j,none⟩=_:=fun j=>SI _ _ j _ 27 (0,0) Ab.out.x
 have fy8:∀ j,w8.cell? ⟨w.heap.size+1,j,none⟩=_:=fun j=>SI _ _ j _ 27 (0,0) Ab.out.y
 have fz8:∀ j,w8.cell? ⟨w.heap.size+1+1,j,none⟩=_:=fun j=>SI _ _ j _ 27 (0,0) Ab.out.z
 have fg8:∀ j,w8.cell? ⟨g,j,none⟩=_:=fun j=>SI _ _ j _ 142 (0,0) Ab.out.gcells
 have zg8:∀ j,w8.frozen? ⟨g,j,none⟩=false:=fun j=>by simp [Tc,Ab.out.gcells]
 go_wp2_with fail
 refine(H_.out _).mono ?_
 rintro e w9 ⟨rfl,Gj⟩
 have uP:=h_ (Ab.out.later Gj)
 clear Gj Ab H_ fx8 fy8 fz8 fg8 zg8
 have fx9:∀ j,w9.cell? ⟨w.heap.size,j,none⟩=_:=fun j=>SI _ _ j _ 27 (0,0) uP.out.x
 have fy9:∀ j,w9.cell? ⟨w.heap.size+1,j,none⟩=_:=fun j=>SI _ _ j _ 27 (0,0) uP.out.y
 have fz9:∀ j,w9.cell? ⟨w.heap.size+1+1,j,none⟩=_:=fun j=>SI _ _ j _ 27 (0,0) uP.out.z
 have fg9:∀ j,w9.cell? ⟨g,j,none⟩=_:=fun j=>SI _ _ j _ 142 (0,0) uP.out.gcells
 have zg9:∀ j,w9.frozen? ⟨g,j,none⟩=false:=fun j=>by simp [Tc,uP.out.gcells]
 go_wp2_with fail
 have hn3:g<w9.heap.size:=by have:=uP.out.lt;omega
 have fgA:∀ o j,(w9.alloc o).cell? ⟨g,j,none⟩=w9.cell? ⟨g,j,none⟩:=fun o j=>SJ.cell?_alloc_lt _ _ _ (by simpa using hn3)
 have hne:g≠w9.heap.size:=by omega
 go_region
 go_wp2_with fail
 have HSW:=h_ (show HSt w g #[SG xt,.string xl,.int .u8 xr,.bool xd,.int .i64 xla,.slice xra xregs.length xrc,.slice xea xevs.length xec,.slice xca xcms.length xcc] #[SG yt,.string yl,.int .u8 yr,.bool yd,.int .i64 yla,.slice yra yregs.length yrc,.slice yea yevs.length yec,.slice yca ycms.length ycc] #[SG zt,.string zl,.int .u8 zr,.bool zd,.int .i64 zla,.slice zra zregs.length zrc,.slice zea zevs.length zec,.slice zca zcms.length zcc] #[SG s1,.string s2,.int .u8 s3,.bool s4,.int .i64 la,.slice none 0 0,.slice none 0 0,.slice none 0 0,k8] (clIf c1 ⟨1,0,aG,mZ⟩++clIf c2 ⟨1,0,aG,zA⟩) ((((w9.setCell ⟨g,2,none⟩ (.int .u8 s3)).setCell ⟨g,3,none⟩ (.bool s4)).alloc (.cells #[.int .u8 s3,.bool s4] 193)).drew) from((uP.out.set hgl 2 (by decide) _).set hgl 3 (by decide) _).later (((S5 _ _).alloc (SQ _) _).drew))
 clear uP fgA hne hn3 fx9 fy9 fz9 fg9 zg9
 refine(HF.out Gz _).mono ?_
 rintro e wA ⟨rfl,BR⟩
 have KS:=h_ (HSW.out.later BR)
 clear BR HSW
 go_wp2_with fail
 refine(KS.out.clash hgl (by simp only [SA];have:=nI c1 ⟨1,0,aG,mZ⟩;have:=nI c2 ⟨1,0,aG,zA⟩;omega) c3 ⟨1,0,aG,Gz⟩).mono ?_
 rintro e wB ⟨rfl,kB,hsB⟩
 have HE:=h_ (show Q (.returned (.tuple #[])) wB from by
  obtain⟨kv,OX⟩:=hsB.cl
  have hk2:=OX.atIx
  simp at hk2
  subst hk2
  exact HQ.out s1 s2 s3 s4 c1 c2 c3 rfl rfl rfl _ _ ⟨OX.cells,rfl,eQ OX.own (by omega),OX.apart⟩ hsB.kept)
 clear hsB KS
 go_wp2_with fail
 go_end0
 exact HE.out
end Go.Proofs.YtnlnmbcaongehaaGreatDoor
namespace Go.Proofs.YtnlnmbcaongehaaGreatDoor
open Go.RowKit
theorem BS (xs:List Ev)(z:Int):bm xs z=(aj (xs.map Ev.c) z).isSome:=by
 rw [lS,Option.isSome_map]
 rfl
theorem BU (xs:List Cm)(z:Int):bo xs z=(bB xs z).isSome:=rfl
theorem KJ (f g:Doc)(z:Int):qg f.eV g.eV f.cM g.cM z=yQ f.c g.c z:=by
 unfold qg yQ
 rw [BS,BS,BU,BU]
 rfl
theorem LC (b a:Doc)(x:Ev):oX b a x=lK b.c a.c x.c:=by
 unfold oX lK
 rw [BS,KJ,show aj a.c.eV x.c.id=(a.eV.find? fun y=>y.id==x.id).map Ev.c from lS _ _]
 cases a.eV.find? (fun y=>y.id==x.id) with
 | none=>simp [Doc.c,Ev.c]
 | some y =>
   simp only [Option.map_some]
   rw [GH]
   simp [Doc.c,Ev.c,Bool.and_assoc]
theorem LD (b a:Doc)(x:Cm):oY b a x=mR b.c a.c x:=by
 unfold oY mR
 rw [BU,KJ]
 show _=(!(bB b.cM x.id).isSome&&yQ b.c a.c x.id&&!(match bB a.cM x.id with|none=>false|some y=>cmEq x y))
 rw [Bool.and_assoc]
 rfl
theorem Sk (b a d:Doc):Tf (aR (gZ b a d d.eV.length d.cM.length))=k_ b.c a.c d.c:=by
 unfold gZ k_
 rw [Sv,Sv]
 have h1:(d.c.eV.filter (lK b.c a.c)).map EvC.id=(d.eV.filter (oX b a)).map Ev.id:=by
  show((d.eV.map Ev.c).filter _).map _=_
  rw [List.filter_map,List.map_map]
  have:(lK b.c a.c ∘ Ev.c)=oX b a:=by
   funext x
   exact(LC b a x).symm
  rw [this]
  rfl
 have h2:d.c.cM.filter (mR b.c a.c)=d.cM.filter (oY b a):=by
  have:mR b.c a.c=oY b a:=by
   funext x
   exact(LD b a x).symm
  rw [this]
  rfl
 rw [h1,h2]
theorem Jl {x y z:Hd} {la:Int} {g:Nat} {w w':SJ} {e:Ending} (h:Dn x y z la g w e w')(hg:g<w.heap.size) :
 e=.returned (.tuple #[])∧∃ kv,(⟨mgHd x y z la,.slice none 0 0,[],.slice none 0 0,[],.slice none 0 0,[],kv,sr x y z⟩:Mg).at_ w.heap.size g w'∧Kept (fun b=>b=g) w w'∧∀ b,kv.ownBlock=some b→w.heap.size≤b:=by
 obtain⟨he,kv,hc,hk⟩:=h
 refine⟨he,kv,⟨hc.cells,Tb _ _ _ _,Tb _ _ _ _,(fun x hx=>by cases hx),Tb _ _ _ _,hc.own,hg,(fun x hx=>by cases hx),⟨fun b=>if b=g then 0 else 4,if_pos rfl,(fun b q=>by cases q),(fun b q=>by cases q),(fun b q=>by cases q),fun b q=>?_,(fun x hx=>by cases hx)⟩⟩,hk,fun b q=>(hc.own.lt b q).1⟩
 exact if_neg (fun e:b=g=>hc.apart (e▸q))
def xD (m:Mg)(B g:Nat)(cls:List Cl)(w:SJ)(e:Ending)(w':SJ):Prop:=e=.returned (.tuple #[])∧∃ kv',({ m with kv:=kv',cls:=cls }:Mg).at_ B g w'∧Mg.step g m { m with kv:=kv',cls:=cls } w w'
theorem wI (B g gm gi:Nat)(m:Mg)(is:Bool)(f:ByteArray)(id:Int)(w:SJ)(h:m.at_ B g w)(hB:B≤w.heap.size)(hl:m.cls.length≤1000000)
 (hm:w.cell? ⟨gm,0,none⟩=some (.pointer (some ⟨g,0,none⟩))) (hi:w.cell? ⟨gi,0,none⟩=some (.int .i64 id)) :
 SN Td 141 #[.bool is,.string f,.pointer (some ⟨gm,0,none⟩),.pointer (some ⟨gi,0,none⟩)] w (xD m B g (m.cls++clIf is ⟨4,id,aG,f⟩) w):=by
 have qX:=h_ (show SN Td 130 #[.pointer (some ⟨g,0,none⟩),.bool is,.agg #[.int .u8 4,.int .i64 id,.string ⟨#[]⟩,.string f]] w (qZ B g m.arr m.kv (m.cls++clIf is ⟨4,id,aG,f⟩) w) from lW B g m.arr m.kv m.cls is ⟨4,id,aG,f⟩ w h.row8 hB hl)
 have HH:=h_ h
 have HQ:=h_ (fun(w':SJ) (q:∃ kv',({ m with kv:=kv',cls:=m.cls++clIf is ⟨4,id,aG,f⟩ }:Mg).at_ B g w'∧Mg.step g m { m with kv:=kv',cls:=m.cls++clIf is ⟨4,id,aG,f⟩ } w w')=>(show xD m B g (m.cls++clIf is ⟨4,id,aG,f⟩) w (.returned (.tuple #[])) w' from⟨rfl,q⟩))
 generalize xD m B g (m.cls++clIf is ⟨4,id,aG,f⟩) w=Q at *
 clear h
 go_enter Tryz.func141,Tryz.ntmps141
 go_wp2_with fail
 refine qX.out.mono ?_
 rintro e w1 ⟨rfl,hp⟩
 have HE:=h_ (HQ.out w1 (HH.out.clash hp))
 clear hp
 go_wp2_with fail
 go_end0
 exact HE.out
end Go.Proofs.YtnlnmbcaongehaaGreatDoor
