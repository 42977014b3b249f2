/- merge.renames: the new IDs of the second side, by the old ones. (printed by gen_mgrenames.py) -/
import Derived.Test.YtnlnmbcaongehaaGreatDoorM12
set_option linter.unusedVariables false
set_option linter.unusedSimpArgs false
set_option maxRecDepth 100000
set_option maxHeartbeats 12800000
open Go.Lib renaming hid→h_
open List renaming mem_of_getElem?→fm,mem_of_find?_eq_some→fp,length_filter_le→ft,mem_of_mem_take→fu,length_take_le→fw,filter_append→fB,mem_filter→fC,map_append→fD,replicate→fE,mem_map→fF
open Go.Value renaming string→fG,int→fH
open Go renaming World→fI,cell_of_row→fJ,heap_alloc_last→fK,Value→fL,heap_setCell_same→fM
open Go.RowKit renaming Below→fN
open Nat renaming le_trans→fO,le_refl→fP,lt_of_lt_of_le→fQ,lt_trans→fR,add_one_le_iff→fS,lt_of_succ_lt→fT,lt_irrefl→fU,add_zero→fV
open Go.RowKit.Below renaming heap_alloc→fW,heap_setCell→fX,refl→fY,alloc→fZ,drew→f_,setCell→gd
open Array renaming getElem?_eq_some_iff→gf
open Go.World renaming size_alloc→gh
open Go.Lib renaming compact→gj,compact_length_le→gl
namespace Go.Proofs.YtnlnmbcaongehaaGreatDoor
open Go.RowKit
def zaM (b0 a0:Doc)(x:Ev):Bool:=!aI b0.evs x.id&&(zbA b0.evs a0.evs b0.cms a0.cms x.id&&!(match a0.evs.find? (fun y=>y.id==x.id) with|none=>false|some y=>evEq x y))
def zaN (b0 a0:Doc)(x:Cm):Bool:=!aJ b0.cms x.id&&(zbA b0.evs a0.evs b0.cms a0.cms x.id&&!(match a0.cms.find? (fun y=>y.id==x.id) with|none=>false|some y=>cmEq x y))
def bX (b0 a0 d:Doc)(k m:Nat):List Int:=((d.evs.take k).filter (zaM b0 a0)).map Ev.id++((d.cms.take m).filter (zaN b0 a0)).map Cm.id
theorem zil {b0 a0 d:Doc} {k:Nat} {x:Ev} (h:d.evs[k]? =some x):bX b0 a0 d (k+1) 0=if zaM b0 a0 x=true then bX b0 a0 d k 0++[x.id] else bX b0 a0 d k 0:=by
 unfold bX
 rw [cj _ k x h,fB,fD]
 split
 · rename_i hp
   simp [hp]
 · rename_i hp
   simp [hp]
theorem zim {b0 a0 d:Doc} {k m:Nat} {x:Cm} (h:d.cms[m]? =some x):bX b0 a0 d k (m+1)=if zaN b0 a0 x=true then bX b0 a0 d k m++[x.id] else bX b0 a0 d k m:=by
 unfold bX
 rw [cj _ m x h,fB,fD]
 split
 · rename_i hp
   simp [hp,List.append_assoc]
 · rename_i hp
   simp [hp]
theorem zho (b0 a0 d:Doc)(k m:Nat):(bX b0 a0 d k m).length≤d.evs.length+d.cms.length:=by
 unfold bX
 have h1:=ft (zaM b0 a0) (d.evs.take k)
 have h2:=ft (zaN b0 a0) (d.cms.take m)
 have h3:=fw k d.evs
 have h4:=fw m d.cms
 simp only [List.length_append,List.length_map]
 have h5:(d.evs.take k).length≤d.evs.length:=by simp;omega
 have h6:(d.cms.take m).length≤d.cms.length:=by simp;omega
 omega
theorem zhp {b0 a0 d:Doc} {k m:Nat} (hf:d.fits) {z:Int} (h:z∈bX b0 a0 d k m):i64 z:=by
 unfold bX at h
 rcases List.mem_append.1 h with h|h
 · obtain⟨x,hx,rfl⟩:=fF.1 h
   exact(hf.2.2.2.2.2.2.2.1 x (fu (fC.1 hx).1)).1
 · obtain⟨x,hx,rfl⟩:=fF.1 h
   exact(hf.2.2.2.2.2.2.2.2.2.1 x (fu (fC.1 hx).1)).1
theorem zig (C:List Int)(L:Int)(k:Nat)(z:Int)(h:C[k]? =some z):(fun y=>if y=z then some (fH .i64 (L+k+1)) else (zfQ C L k y).map (fH .i64))=fun y=>(zfQ C L (k+1) y).map (fH .i64):=by
 funext y
 simp only [zfQ,h]
 by_cases hy:y=z
 · subst hy
   simp
 · rw [if_neg hy,if_neg (fun e=>hy (Option.some.inj e).symm)]
theorem wrap64_in {n:Int} (h1:-9223372036854775808≤n)(h2:n≤9223372036854775807):IntKind.i64.wrap n=n:=IntWalk.i64_in n (by omega)
def cR (w:fI)(g b1 b2:Nat):Prop:=∃ arr:Array fL,w.heap[g]? =some (.cells arr 148 (0,0))∧arr[0]? =some (.map (some b1))∧arr[1]? =some (.map (some b2))
theorem size_set (w:fI)(a:Addr)(u:fL):(w.setCell a u).heap.size=w.heap.size:=by simp
def RCut (b0 a0:Doc)(n B:Nat)(W0:fI)(s7 s8:fL)(wx:fI):Prop:=∃ g7 g8 b1 b2 c1 c2,s7=.pointer (some ⟨g7,0,none⟩)∧s8=.pointer (some ⟨g8,0,none⟩)∧cR wx g7 b1 b2∧cR wx g8 c1 c2 ∧
 aV wx b1 b2 n b0.evs b0.cms∧aV wx c1 c2 n a0.evs a0.cms∧fN B W0 wx
def ORel (ids:List Int)(w5:fI)(v:fL)(wr:fI):Prop:=wr.ownsRow w5.heap.size 2 1 v ids.length (ids.map (fH .i64))∧fN w5.heap.size w5 wr
theorem ORel.push {ids:List Int} {w5 wr W w2:fI} {v v':fL} {z:Int} {cs:Array fL} (h:ORel ids w5 v wr)(hW:fN wr.heap.size wr W)(ho:w2.ownsRow w5.heap.size 2 1 v' (ids.length+1) (ids.map (fH .i64)++cs.toList))(hcs:cs=#[.int .i64 z])(hg:(W.alloc (.cells cs 2)).grownBy w2 v.ownBlock):ORel (ids++[z]) w5 v' w2:=by
 subst hcs
 have hb:=h.2.trans (hW.mono h.2.size)
 exact⟨by simpa using ho,(hb.alloc hb.size _).grown hg (fO hb.size (by simp)) fun j hj=>(h.1.lt j hj).1⟩
def zgm (ids:List Int)(last:Int)(w:fI)(e:Ending)(w':fI):Prop:=∃ b,e=.returned (.map (some b))∧VMap w' b ids.length (fun z=>(zfQ ids last ids.length z).map (fH .i64))∧w.heap.size≤b∧fN w.heap.size w w'
theorem dheap (w:fI):w.drew.heap=w.heap:=rfl
section
variable {w:fI} {g b1 b2 k i:Nat} {u:fL} {o:Obj}
theorem cR.set (h:cR w g b1 b2)(hne:g≠k):cR (w.setCell ⟨k,i,none⟩ u) g b1 b2:=by
 obtain⟨arr,h1,h2⟩:=h
 exact⟨arr,(fX _ _ _ _ hne).trans h1,h2⟩
theorem cR.kept {w':fI} (h:cR w g b1 b2)(hb:w'.heap[g]? =w.heap[g]?):cR w' g b1 b2:=by
 obtain⟨arr,h1,h2⟩:=h
 exact⟨arr,hb.trans h1,h2⟩
theorem cR.lt (h:cR w g b1 b2):g<w.heap.size:=by
 obtain⟨arr,h1,h2⟩:=h
 exact(gf.1 h1).1
theorem cR.alloc (h:cR w g b1 b2):cR (w.alloc o) g b1 b2:=h.kept (fW _ _ _ h.lt)
theorem cR.two (h:w.heap[g]? =some (.cells #[.map none,.map none] 148 (0,0))):cR ((w.setCell ⟨g,0,none⟩ (.map (some b1))).setCell ⟨g,1,none⟩ (.map (some b2))) g b1 b2 :=
 ⟨_,fM _ _ _ _ _ _ (fM _ _ _ _ _ _ h),rfl,rfl⟩
theorem zkj (hg:g=w.heap.size):(w.alloc o).heap[g]? =some o:=by
 subst hg
 exact fK _ _
theorem cR.new (hg:g=w.heap.size):cR (w.alloc (.cells #[.map (some b1),.map (some b2)] 148)) g b1 b2:=⟨_,zkj hg,rfl,rfl⟩
end
theorem zac (w:fI)(b:Nat):w.drew.heap[b]? =w.heap[b]?:=rfl
theorem box3 (w:fI)(xs ys zs:Array fL)(T:TypeId)(wx:fI)(h:fN (w.heap.size+3) (((w.alloc (.cells xs T)).alloc (.cells ys T)).alloc (.cells zs T)) wx) :
 wx.heap[w.heap.size]? =some (.cells xs T (0,0))∧wx.heap[w.heap.size+1]? =some (.cells ys T (0,0))∧wx.heap[w.heap.size+1+1]? =some (.cells zs T (0,0)):=by
 refine⟨?_,?_,?_⟩
 · rw [h.block _ (by omega),fW _ _ _ (by simp;try omega),fW _ _ _ (by simp)]
   exact fK w _
 · rw [h.block _ (by omega),fW _ _ _ (by simp)]
   have:=fK (w.alloc (.cells xs T)) (.cells ys T)
   rwa [gh] at this
 · rw [h.block _ (by omega)]
   have:=fK ((w.alloc (.cells xs T)).alloc (.cells ys T)) (.cells zs T)
   rwa [gh,gh] at this
theorem eK (w:fI)(o1 o2 o3:Obj):fN w.heap.size w (((w.alloc o1).alloc o2).alloc o3):=(((fY _ _).alloc (fP _) _).alloc (by simp) _).alloc (by simp;try omega) _
theorem zbw (base:Nat)(v:fL)(ss:List Int)(w:fI)(hown:w.ownsRow base 2 1 v ss.length (ss.map (fH .i64)))(hl:ss.length≤8000000) :
 Calls Tryz.prog 95 #[v] w fun e w'=>∃ v',e=.returned v'∧w'.ownsRow base 2 1 v' (gj ss).length ((gj ss).map (fH .i64))∧v'.ownBlock=v.ownBlock∧fN base w w'∧Kept (fun b=>v.ownBlock=some b) w w':=by
 by_cases hv:v=.slice none 0 0
 · subst hv
   have h0:ss=[]:=by
    rcases hown.2 with⟨_,h⟩|⟨_,_,_,h,_⟩
    · exact List.eq_nil_of_length_eq_zero h
    · cases h
   subst h0
   exact(Tryz.slices_Compact_int_empty none 0 w).mono fun e w' ⟨he,hw⟩=>⟨_,he,by subst hw;simpa [gj,Lib.compactUpTo] using hown,rfl,hw▸fY _ _,hw▸Kept.refl _ _⟩
 · obtain⟨g,cap,rfl,hbg,hgl,hnc,_,_,hH⟩:=Lib.holds_of_ownsRow hown hv
   have hle:=gl ss
   refine(Tryz.slices_Compact_int g 0 cap ss w hH (by omega) hnc).mono fun e w' ⟨he,q,hw⟩=>?_
   subst hw
   have h1:=Lib.ownsRow_putRow (q:=q) (k:=(gj ss).length) (ys:=gj ss++fE (ss.length-(gj ss).length) 0) hown (by simp;omega) hle
   rw [List.take_append_of_le_length (fP _),List.take_length] at h1
   have hb:=Lib.below_putRow (enc:=fH .i64) (q:=q) (d:=(gj ss++fE (ss.length-(gj ss).length) 0).toArray) (fY base w) hbg
   refine⟨_,he,h1,rfl,hb,hb.os,hb.tape,hb.output,hb.size,fun k hk hne=>?_⟩
   have hkg:g≠k:=fun e=>hne (by rw [e];rfl)
   simp only [Sort.putRow,Sort.mapBlock,Array.getElem?_modify]
   rw [if_neg hkg]
   rfl
theorem zeh (b0 a0 d:Doc)(w:fI)(hb:b0.lies w)(ha:a0.lies w)(hd:d.lies w)(hfb:b0.fits)(hfa:a0.fits)(hfd:d.fits)(n:Nat)(hn:n≤1000000)(hbl:b0.evs.length≤n∧b0.cms.length≤n)(hal:a0.evs.length≤n∧a0.cms.length≤n)(hdl:d.evs.length≤n∧d.cms.length≤n)
 (hla:0≤a0.last∧a0.last≤1099511627776) (hld:0≤d.last∧d.last≤1099511627776) :
 Calls Tryz.prog 75 #[.agg b0.enc.toArray,.agg a0.enc.toArray,.agg d.enc.toArray] w (zgm (gj (bo (bX b0 a0 d d.evs.length d.cms.length))) (max a0.last d.last) w):=by
 have HFB:=h_ (fun(w1:fI) (h:fN w.heap.size w w1)=>bn b0 w1 (Doc.later hb h) hfb)
 have HFA:=h_ (fun(w1:fI) (h:fN w.heap.size w w1)=>bn a0 w1 (Doc.later ha h) hfa)
 have HMB:=h_ (fun(b1 b2:Nat) (wx:fI) (h1:VMap wx b1 b0.evs.length (aM b0.evs)) (h2:VMap wx b2 b0.cms.length (aK b0.cms))=>(show aV wx b1 b2 n b0.evs b0.cms from⟨h1.mono hbl.1,h2.mono hbl.2⟩))
 have HMA:=h_ (fun(b1 b2:Nat) (wx:fI) (h1:VMap wx b1 a0.evs.length (aM a0.evs)) (h2:VMap wx b2 a0.cms.length (aK a0.cms))=>(show aV wx b1 b2 n a0.evs a0.cms from⟨h1.mono hal.1,h2.mono hal.2⟩))
 have HDE:=h_ hd.2.1
 have HDC:=h_ hd.2.2
 have HFE:=h_ hfd.2.2.2.2.2.2.2.1
 have HFC:=h_ hfd.2.2.2.2.2.2.2.2.2.1
 have HDL:=h_ hdl
 have HAE:=h_ (fun(x:Ev) (hx:x∈a0.evs)=>(show x.lies w∧x.fits from⟨zaT ha.2.1 hx,hfa.2.2.2.2.2.2.2.1 x hx⟩))
 have HIE:=h_ (fun k x=>zil (b0:=b0) (a0:=a0) (d:=d) (k:=k) (x:=x))
 have HIC:=h_ (fun m x=>zim (b0:=b0) (a0:=a0) (d:=d) (k:=d.evs.length) (m:=m) (x:=x))
 have HIL:=h_ (fun k m=>zho b0 a0 d k m)
 have HI0:=h_ (show bX b0 a0 d 0 0=[] from rfl)
 have HI64:=h_ (fun z (hz:z∈bX b0 a0 d d.evs.length d.cms.length)=>zhp hfd hz)
 have HPE:=h_ (fun(x:Ev)=>(show zaM b0 a0 x=(!aI b0.evs x.id&&(zbA b0.evs a0.evs b0.cms a0.cms x.id&&!(match a0.evs.find? (fun y=>y.id==x.id) with|none=>false|some y=>evEq x y))) from rfl))
 have HPC:=h_ (fun(x:Cm)=>(show zaN b0 a0 x=(!aJ b0.cms x.id&&(zbA b0.evs a0.evs b0.cms a0.cms x.id&&!(match a0.cms.find? (fun y=>y.id==x.id) with|none=>false|some y=>cmEq x y))) from rfl))
 generalize hQ:zgm (gj (bo (bX b0 a0 d d.evs.length d.cms.length))) (max a0.last d.last) w=Q at *
 have HQ:=h_ hQ
 clear hQ
 generalize bX b0 a0 d=IDS at *
 generalize zaM b0 a0=PE at *
 generalize zaN b0 a0=PC at *
 obtain⟨bt,bl,br,bd,bla,bra,brc,bregs,bea,bec,bevs,bca,bcc,bcms⟩:=b0
 obtain⟨at_,al,ar,ad,ala,ara,arc,aregs,aea,aec,aevs,aca,acc,acms⟩:=a0
 obtain⟨dt,dl,dr,dd,dla,dra,drc,dregs,dea,dec,devs,dca,dcc,dcms⟩:=d
 clear hb ha hd hfb hfa hfd hbl hal hdl
 simp only [Doc.enc] at *
 have F0:=h_ (fun wx (h:fN (w.heap.size+3) (((w.alloc (.cells #[fG bt,.string bl,.int .u8 br,.bool bd,.int .i64 bla,.slice bra bregs.length brc,.slice bea bevs.length bec,.slice bca bcms.length bcc] 27)).alloc (.cells #[fG at_,.string al,.int .u8 ar,.bool ad,.int .i64 ala,.slice ara aregs.length arc,.slice aea aevs.length aec,.slice aca acms.length acc] 27)).alloc (.cells #[fG dt,.string dl,.int .u8 dr,.bool dd,.int .i64 dla,.slice dra dregs.length drc,.slice dea devs.length dec,.slice dca dcms.length dcc] 27)) wx)=>box3 w _ _ _ 27 wx h)
 have HB:=h_ (fun wx (h:fN (w.heap.size+3) (((w.alloc (.cells #[fG bt,.string bl,.int .u8 br,.bool bd,.int .i64 bla,.slice bra bregs.length brc,.slice bea bevs.length bec,.slice bca bcms.length bcc] 27)).alloc (.cells #[fG at_,.string al,.int .u8 ar,.bool ad,.int .i64 ala,.slice ara aregs.length arc,.slice aea aevs.length aec,.slice aca acms.length acc] 27)).alloc (.cells #[fG dt,.string dl,.int .u8 dr,.bool dd,.int .i64 dla,.slice dra dregs.length drc,.slice dea devs.length dec,.slice dca dcms.length dcc] 27)) wx)=>(show fN w.heap.size w wx from(eK w _ _ _).trans (h.mono (by omega))))
 have hsz:(((w.alloc (.cells #[fG bt,.string bl,.int .u8 br,.bool bd,.int .i64 bla,.slice bra bregs.length brc,.slice bea bevs.length bec,.slice bca bcms.length bcc] 27)).alloc (.cells #[fG at_,.string al,.int .u8 ar,.bool ad,.int .i64 ala,.slice ara aregs.length arc,.slice aea aevs.length aec,.slice aca acms.length acc] 27)).alloc (.cells #[fG dt,.string dl,.int .u8 dr,.bool dd,.int .i64 dla,.slice dra dregs.length drc,.slice dea devs.length dec,.slice dca dcms.length dcc] 27)).heap.size=w.heap.size+3:=by simp
 generalize hW0:(((w.alloc (.cells #[fG bt,.string bl,.int .u8 br,.bool bd,.int .i64 bla,.slice bra bregs.length brc,.slice bea bevs.length bec,.slice bca bcms.length bcc] 27)).alloc (.cells #[fG at_,.string al,.int .u8 ar,.bool ad,.int .i64 ala,.slice ara aregs.length arc,.slice aea aevs.length aec,.slice aca acms.length acc] 27)).alloc (.cells #[fG dt,.string dl,.int .u8 dr,.bool dd,.int .i64 dla,.slice dra dregs.length drc,.slice dea devs.length dec,.slice dca dcms.length dcc] 27))=W0 at *
 have HW0:=h_ hW0
 have HSZ:=h_ hsz
 have hb0:fN (w.heap.size+3) W0 W0:=fY _ _
 have hbd:fN (w.heap.size+3) W0 W0.drew:=hb0.drew
 have HLT:=h_ (fun(w2:fI) (h:fN (w.heap.size+3) W0 w2)=>(show w.heap.size+3≤w2.heap.size by have:=h.size;rw [HSZ.out] at this;exact this))
 have HT:=h_ (fun(w2 w3:fI) (h:fN (w.heap.size+3) W0 w2) (h3:fN w2.heap.size w2 w3)=>(h.trans (h3.mono (HLT.out _ h)):fN (w.heap.size+3) W0 w3))
 have HFB1:=h_ (fun(w1:fI) (h:fN (w.heap.size+3) W0 w1)=>(HFB.out w1 (HB.out _ h)).mono (fun e w' p=>(show ∃ b1 b2,e=.returned (.agg #[.map (some b1),.map (some b2)])∧Hid (aV w' b1 b2 n bevs bcms∧w1.heap.size≤b1∧w1.heap.size≤b2)∧fN (w.heap.size+3) W0 w'∧Hid (fN w1.heap.size w1 w') from by
  obtain⟨b1,b2,q1,q2,q3,q5,q6,q4⟩:=p
  exact⟨b1,b2,q1,⟨HMB.out b1 b2 w' q2 q3,q5,q6⟩,HT.out _ _ h q4,q4⟩)))
 have HFA1:=h_ (fun(w1:fI) (h:fN (w.heap.size+3) W0 w1)=>(HFA.out w1 (HB.out _ h)).mono (fun e w' p=>(show ∃ b1 b2,e=.returned (.agg #[.map (some b1),.map (some b2)])∧Hid (aV w' b1 b2 n aevs acms∧w1.heap.size≤b1∧w1.heap.size≤b2)∧fN (w.heap.size+3) W0 w'∧Hid (fN w1.heap.size w1 w') from by
  obtain⟨b1,b2,q1,q2,q3,q5,q6,q4⟩:=p
  exact⟨b1,b2,q1,⟨HMA.out b1 b2 w' q2 q3,q5,q6⟩,HT.out _ _ h q4,q4⟩)))
 have fb:∀ wx,fN (w.heap.size+3) W0 wx→∀ j,wx.cell? ⟨w.heap.size,j,none⟩=_:=fun wx h j=>fJ _ _ j _ 27 (0,0) (F0.out wx h).1
 have fa:∀ wx,fN (w.heap.size+3) W0 wx→∀ j,wx.cell? ⟨w.heap.size+1,j,none⟩=_:=fun wx h j=>fJ _ _ j _ 27 (0,0) (F0.out wx h).2.1
 have fd:∀ wx,fN (w.heap.size+3) W0 wx→∀ j,wx.cell? ⟨w.heap.size+1+1,j,none⟩=_:=fun wx h j=>fJ _ _ j _ 27 (0,0) (F0.out wx h).2.2
 have FD:=h_ fd
 have FA:=h_ fa
 have HAD:=h_ (fun(w2:fI) (h:fN (w.heap.size+3) W0 w2) (o:Obj)=>(h.alloc (HLT.out _ h) o:fN (w.heap.size+3) W0 (w2.alloc o)))
 clear hW0 hsz fd
 go_enter Tryz.func75,Tryz.ntmps75
 go_upto_region 1 with fail
 rw [HW0.out]
 go_cut [7,8] (fun s7 s8 wx=>RCut ⟨bt,bl,br,bd,bla,bra,brc,bregs,bea,bec,bevs,bca,bcc,bcms⟩ ⟨at_,al,ar,ad,ala,ara,arc,aregs,aea,aec,aevs,aca,acc,acms⟩ n (w.heap.size+3) W0 s7 s8 wx)
 case first =>
  go_region_held3 (fun w'=>fN (w.heap.size+3) W0 w') (repeat (first|with_reducible assumption|with_reducible exact hbd|with_reducible refine f_ ?_|with_reducible refine fZ ?_ (by first|(have:=HSZ.out;simp;omega)|(have:=HLT.out _ hcA;simp;omega)|(have:=HLT.out _ hcB;simp;omega)|(rw [HSZ.out];exact fP _)) _|with_reducible refine gd ?_ (by dsimp only;first|(have:=HSZ.out;simp;omega)|(have:=HLT.out _ hcA;simp;omega)|(have:=HLT.out _ hcB;simp;omega)) _)) (first
   | (go_at_call 79;(with_reducible refine(HFB1.out _ ?_).mono ?_);(repeat (first|with_reducible assumption|with_reducible exact hbd|with_reducible refine f_ ?_|with_reducible refine fZ ?_ (by first|(have:=HSZ.out;simp;omega)|(have:=HLT.out _ hcA;simp;omega)) _));rintro e wB ⟨b1,b2,rfl,hMB,hcB,hrB⟩;obtain⟨kB1,kB2⟩:=bcell hrB.out;have sB:=hrB.out.size;(try simp only [dheap,gh,fS] at sB);(try have tB:=fT sB);(try have uB:=fQ sA sB);(try have vB:=fQ tA sB);(try have xB:=fR sA sB);(try have yB:=fR tA sB))
   | (go_at_call 79;(with_reducible refine(HFA1.out _ ?_).mono ?_);(repeat (first|with_reducible assumption|with_reducible exact hbd|with_reducible refine f_ ?_|with_reducible refine fZ ?_ (by first|(have:=HSZ.out;simp;omega)|(have:=HLT.out _ hcB;simp;omega)) _));rintro e wA ⟨a1,a2,rfl,hMA,hcA,hrA⟩;obtain⟨kA1,kA2⟩:=bcell hrA.out;have sA:=hrA.out.size;(try simp only [dheap,gh,fS] at sA);(try have tA:=fT sA);(try have uA:=fQ sB sA);(try have vA:=fQ tB sA);(try have xA:=fR sB sA);(try have yA:=fR tB sA)))
  all_goals
   go_wp2_with fail
   go_meet
   obtain⟨mB,lB1,lB2⟩:=hMB.out
   obtain⟨mA,lA1,lA2⟩:=hMA.out
   have pB1:=mB.ev.lt
   have pB2:=mB.cm.lt
   have pA1:=mA.ev.lt
   have pA2:=mA.cm.lt
   simp only [dheap,gh] at lB1 lB2 lA1 lA2
   have hsz:=HSZ.out
   refine⟨_,_,b1,b2,a1,a2,rfl,rfl,?bx7,?bx8,⟨mB.ev.kept ?e1,mB.cm.kept ?e2⟩,⟨mA.ev.kept ?e3,mA.cm.kept ?e4⟩,?bel⟩
   case bx7=>repeat (first|(with_reducible refine cR.new ?hs;case hs=>(first|omega|(simp only [dheap,gh,size_set]<;>omega)))|with_reducible refine cR.two ?_|(with_reducible refine cR.set ?_ ?hs;case hs=>omega)|with_reducible refine cR.alloc ?_|(with_reducible refine zkj ?hs;case hs=>(first|omega|(simp only [dheap,gh,size_set]<;>omega)))|(with_reducible refine(fX _ _ _ _ ?hs).trans ?_;case hs=>(dsimp only;omega))|(with_reducible refine(fW _ _ _ ?hs).trans ?_;case hs=>(first|omega|(simp only [dheap,gh,size_set]<;>omega)))|(with_reducible refine(hrA.out.block _ ?hs).trans ?_;case hs=>(first|omega|(simp only [dheap,gh,size_set]<;>omega)))|(with_reducible refine(hrB.out.block _ ?hs).trans ?_;case hs=>(first|omega|(simp only [dheap,gh,size_set]<;>omega)))|with_reducible refine(zac _ _).trans ?_)
   case bx8=>repeat (first|(with_reducible refine cR.new ?hs;case hs=>(first|omega|(simp only [dheap,gh,size_set]<;>omega)))|with_reducible refine cR.two ?_|(with_reducible refine cR.set ?_ ?hs;case hs=>omega)|with_reducible refine cR.alloc ?_|(with_reducible refine zkj ?hs;case hs=>(first|omega|(simp only [dheap,gh,size_set]<;>omega)))|(with_reducible refine(fX _ _ _ _ ?hs).trans ?_;case hs=>(dsimp only;omega))|(with_reducible refine(fW _ _ _ ?hs).trans ?_;case hs=>(first|omega|(simp only [dheap,gh,size_set]<;>omega)))|(with_reducible refine(hrA.out.block _ ?hs).trans ?_;case hs=>(first|omega|(simp only [dheap,gh,size_set]<;>omega)))|(with_reducible refine(hrB.out.block _ ?hs).trans ?_;case hs=>(first|omega|(simp only [dheap,gh,size_set]<;>omega)))|with_reducible refine(zac _ _).trans ?_)
   case e1=>repeat (first|(with_reducible refine(fX _ _ _ _ ?hs).trans ?_;case hs=>(dsimp only;omega))|(with_reducible refine(fW _ _ _ ?hs).trans ?_;case hs=>(first|omega|(simp only [dheap,gh,size_set]<;>omega)))|(with_reducible refine(hrA.out.block _ ?hs).trans ?_;case hs=>(first|omega|(simp only [dheap,gh,size_set]<;>omega)))|with_reducible refine(zac _ _).trans ?_|with_reducible exact rfl)
   case e2=>repeat (first|(with_reducible refine(fX _ _ _ _ ?hs).trans ?_;case hs=>(dsimp only;omega))|(with_reducible refine(fW _ _ _ ?hs).trans ?_;case hs=>(first|omega|(simp only [dheap,gh,size_set]<;>omega)))|(with_reducible refine(hrA.out.block _ ?hs).trans ?_;case hs=>(first|omega|(simp only [dheap,gh,size_set]<;>omega)))|with_reducible refine(zac _ _).trans ?_|with_reducible exact rfl)
   case e3=>repeat (first|(with_reducible refine(fX _ _ _ _ ?hs).trans ?_;case hs=>(dsimp only;omega))|(with_reducible refine(fW _ _ _ ?hs).trans ?_;case hs=>(first|omega|(simp only [dheap,gh,size_set]<;>omega)))|(with_reducible refine(hrB.out.block _ ?hs).trans ?_;case hs=>(first|omega|(simp only [dheap,gh,size_set]<;>omega)))|with_reducible refine(zac _ _).trans ?_|with_reducible exact rfl)
   case e4=>repeat (first|(with_reducible refine(fX _ _ _ _ ?hs).trans ?_;case hs=>(dsimp only;omega))|(with_reducible refine(fW _ _ _ ?hs).trans ?_;case hs=>(first|omega|(simp only [dheap,gh,size_set]<;>omega)))|(with_reducible refine(hrB.out.block _ ?hs).trans ?_;case hs=>(first|omega|(simp only [dheap,gh,size_set]<;>omega)))|with_reducible refine(zac _ _).trans ?_|with_reducible exact rfl)
   case bel=>repeat (first|with_reducible assumption|with_reducible exact hbd|with_reducible refine f_ ?_|with_reducible refine fZ ?_ (by simp;omega) _|with_reducible refine gd ?_ (by dsimp only;omega) _)
 case rest =>
  obtain⟨g7,g8,b1,b2,c1,c2,rfl,rfl,⟨arr7,h7,h70,h71⟩,⟨arr8,h8,h80,h81⟩,hMB,hMA,hcw⟩:=hcut
  have HCW:=h_ hcw
  have l7:=(gf.1 h7).1
  have l8:=(gf.1 h8).1
  have k70:∀ w1,fN wc.heap.size wc w1→w1.cell? ⟨g7,0,none⟩=some (.map (some b1)):=fun w1 h=>(fJ _ _ 0 arr7 148 (0,0) ((h.block _ l7).trans h7)).trans h70
  have k71:∀ w1,fN wc.heap.size wc w1→w1.cell? ⟨g7,1,none⟩=some (.map (some b2)):=fun w1 h=>(fJ _ _ 1 arr7 148 (0,0) ((h.block _ l7).trans h7)).trans h71
  have k80:∀ w1,fN wc.heap.size wc w1→w1.cell? ⟨g8,0,none⟩=some (.map (some c1)):=fun w1 h=>(fJ _ _ 0 arr8 148 (0,0) ((h.block _ l8).trans h8)).trans h80
  have k81:∀ w1,fN wc.heap.size wc w1→w1.cell? ⟨g8,1,none⟩=some (.map (some c2)):=fun w1 h=>(fJ _ _ 1 arr8 148 (0,0) ((h.block _ l8).trans h8)).trans h81
  have kd:∀ w1,fN wc.heap.size wc w1→∀ j,w1.cell? ⟨w.heap.size+1+1,j,none⟩=_:=fun w1 h j=>FD.out w1 (HT.out _ _ hcw h) j
  have ka:∀ w1,fN wc.heap.size wc w1→∀ j,w1.cell? ⟨w.heap.size+1,j,none⟩=_:=fun w1 h j=>FA.out w1 (HT.out _ _ hcw h) j
  have hw0:fN wc.heap.size wc wc:=fY _ _
  have hd1:devs.length≤1000000:=by have:=HDL.out;omega
  have hd2:dcms.length≤1000000:=by have:=HDL.out;omega
  obtain⟨j0,hj,hy0,hy1,hy2⟩:=info_parts Tryz.info2
  have JI:=h_ hj;have J0:=h_ hy0;have J1:=h_ hy1;have J2:=h_ hy2
  have hmm:=@run_makeMap Tryz.prog
  clear hj hy0 hy1 hy2 h7 h8 h70 h71 h80 h81 l7 l8 fb fa hb0 hbd HFB HFA HFB1 HFA1 HMB HMA
  go_wp2_with fail
  go_loopw [9,33] (fun v i wr=>∃ k:Nat,k≤devs.length∧i=.int .i64 k∧ORel (IDS k 0) wc v wr) (fun _ i _=>devs.length-(intOf i).toNat)
  case atStart=>exact⟨0,by omega,rfl,by rw [HI0.out];exact⟨fI.ownsRow_nil _ _ _ _,hw0⟩⟩
  case round =>
   obtain⟨k,hk,rfl,hrel⟩:=hrel
   by_cases hlt:k<devs.length
   · have hb:=hrel.2
     have HWS:=h_ hb.size
     have HO:=h_ hrel.1
     have hws:=hb.size
     obtain⟨b,off,x,rfl,hbl,hx,hc,hok⟩:=((HDE.out.later (HB.out _ hcw)).later hb).at_ hlt
     have hft:=HFE.out x (fm hx)
     have hid:i64 x.id:=hft.1
     have hA1:∀ o,fN wc.heap.size wc (wr.alloc o):=fun o=>hb.alloc hb.size o
     have hA2:∀ o o',fN wc.heap.size wc ((wr.alloc o).alloc o'):=fun o o'=>(hA1 o).alloc (hA1 o).size o'
     obtain⟨e1,h1,_⟩:=zbR hMB.ev hid
     obtain⟨e2,h2,he2⟩:=zbR hMA.ev hid
     have L1:=h_ (fun(w1:fI) (h:fN wc.heap.size wc w1)=>h1 w1 (h.block _ hMB.ev.lt))
     have L2:=h_ (fun(w1:fI) (h:fN wc.heap.size wc w1)=>h2 w1 (h.block _ hMA.ev.lt))
     have HADD:=h_ (fun(w1:fI) (h:fN wc.heap.size wc w1)=>zd3 b1 b2 c1 c2 n n bevs aevs bcms acms x.id w1 (hMB.later h) (hMA.later h) hid)
     have hP:=HPE.out x
     have hM:∃ M:Bool,PE x=(!aI bevs x.id&&(zbA bevs aevs bcms acms x.id&&!M))∧((aI aevs x.id=false∧M=false)∨(aI aevs x.id=true∧M=evEq x e2∧e2∈aevs)):=by
      unfold aI at *
      cases hfd:aevs.find? (fun y=>y.id==x.id) with
      | none =>
        rw [hfd] at hP
        exact⟨false,hP,.inl ⟨rfl,rfl⟩⟩
      | some y =>
        rw [hfd] at hP he2
        obtain rfl:e2=y:=he2
        exact⟨evEq x e2,hP,.inr ⟨rfl,rfl,fp hfd⟩⟩
     have HX:=h_ (HIE.out k x hx)
     have hgx:=fun j v h=>ab wr (x.enc).toArray 50 j v h
     have HR:=h_ (fun w1 (h:fN (wr.heap.size+1) (wr.alloc (.cells (x.enc).toArray 50)) w1)=>(((fY wr.heap.size wr).alloc (fP _) _).trans (h.mono (by omega)):fN wr.heap.size wr w1))
     have HA:=h_ (fun w1 (h:fN (wr.heap.size+1) (wr.alloc (.cells (x.enc).toArray 50)) w1)=>(hb.trans ((HR.out w1 h).mono hb.size):fN wc.heap.size wc w1))
     have HTX:=h_ (fun(w1 w2:fI) (h:fN (wr.heap.size+1) (wr.alloc (.cells (x.enc).toArray 50)) w1) (h2:fN w1.heap.size w1 w2)=>(h.trans (h2.mono (by have:=h.size;rw [gh] at this;exact this)):fN (wr.heap.size+1) (wr.alloc (.cells (x.enc).toArray 50)) w2))
     have hX1:fN (wr.heap.size+1) (wr.alloc (.cells (x.enc).toArray 50)) (wr.alloc (.cells (x.enc).toArray 50)):=fY _ _
     have hX2:∀ o',fN (wr.heap.size+1) (wr.alloc (.cells (x.enc).toArray 50)) ((wr.alloc (.cells (x.enc).toArray 50)).alloc o'):=fun o'=>hX1.alloc (by simp) o'
     have HXA:=h_ (fun(w1:fI) (h:fN (wr.heap.size+1) (wr.alloc (.cells (x.enc).toArray 50)) w1) (o:Obj)=>HTX.out w1 (w1.alloc o) h ((fY _ _).alloc (fP _) o))
     have HSM:=h_ (fun(he:e2∈aevs) (w1:fI) (h:fN wc.heap.size wc w1)=>dE x e2 w1 (Ev.keeps _ _ _ ((HB.out _ hcw).trans (h.mono (HB.out _ hcw).size)) (zaT HDE.out (fm hx))) (Ev.keeps _ _ _ ((HB.out _ hcw).trans (h.mono (HB.out _ hcw).size)) (HAE.out e2 he).1) (fun q hq=>(hft.2.2.2.2.2.2.2.1 q hq).2.1) (fun q hq=>((HAE.out e2 he).2.2.2.2.2.2.2.2.1 q hq).2.1) hft.2.2.2.2.2.2.2.2)
     have HSKIP:=h_ (fun(w1:fI) (h:fN wr.heap.size wr w1) (hp:PE x=false)=>(show ORel (IDS (k+1) 0) wc u9 w1 from by
      rw [HX.out,hp]
      exact⟨aq HO.out h,hb.trans (h.mono hb.size)⟩))
     have HPUSH:=h_ (fun(hp:PE x=true) (W:fI) (v':fL) (w7:fI) (cs:Array fL) (hW:fN wr.heap.size wr W) (ho:w7.ownsRow wc.heap.size 2 1 v' ((IDS (k) 0).length+1) ((IDS (k) 0).map (fH .i64)++cs.toList)) (hcs:cs=#[.int .i64 x.id]) (hg:(W.alloc (.cells cs 2)).grownBy w7 u9.ownBlock)=>(show ORel (IDS (k+1) 0) wc v' w7 from by
      rw [HX.out,hp]
      exact ORel.push ⟨HO.out,hb⟩ hW ho hcs hg))
     have hil:=HIL.out k 0
     have h63:=h_ (show(IDS (k) 0).length+1≤maxLen by have:=HDL.out;unfold maxLen;omega)
     have hby:=h_ (show((IDS (k) 0).length+1)*8≤140737488355328 by have:=HDL.out;omega)
     have hbw:=hb
     clear hP hx he2 hok hft hid h1 h2 hrel hb hil hX1
     obtain⟨M,hPM,hMM⟩:=hM
     generalize aI bevs x.id=A at *
     generalize aI aevs x.id=C at *
     generalize zbA bevs aevs bcms acms x.id=D at *
     have HSKA:=h_ (fun(w1:fI) (h:fN wr.heap.size wr w1) (ha:A=true)=>HSKIP.out w1 h (by rw [hPM,ha];rfl))
     have HSKD:=h_ (fun(w1:fI) (h:fN wr.heap.size wr w1) (ha:D=false)=>HSKIP.out w1 h (by rw [hPM,ha];cases A<;>rfl))
     have HSKM:=h_ (fun(w1:fI) (h:fN wr.heap.size wr w1) (ha:M=true)=>HSKIP.out w1 h (by rw [hPM,ha];cases A<;>cases D<;>rfl))
     have HPU:=h_ (fun(h1:A=false) (h2:D=true) (h3:M=false)=>HPUSH.out (by rw [hPM,h1,h2,h3];rfl))
     have HMM:=h_ hMM
     clear hPM hMM HSKIP HPUSH HX
     obtain⟨xid,xin,xout,xreg,xkind,xsp,xxa,xxc,xxr⟩:=x
     obtain⟨pid,pin,pout,preg,pkind,psp,pxa,pxc,pxr⟩:=e1
     obtain⟨qid,qin,qout,qreg,qkind,qsp,qxa,qxc,qxr⟩:=e2
     have d0:=hc 0 _ rfl;have d1:=hc 1 _ rfl;have d2:=hc 2 _ rfl;have d3:=hc 3 _ rfl;have d4:=hc 4 _ rfl;have d5:=hc 5 _ rfl;have d6:=hc 6 _ rfl
     have x0:=hgx 0 _ rfl;have x1:=hgx 1 _ rfl;have x2:=hgx 2 _ rfl;have x3:=hgx 3 _ rfl;have x4:=hgx 4 _ rfl;have x5:=hgx 5 _ rfl;have x6:=hgx 6 _ rfl
     simp only [fV,Ev.enc] at d0 d1 d2 d3 d4 d5 d6 x0 x1 x2 x3 x4 x5 x6 L1 L2 HR HA HTX hX2 HXA HSM HPU
     clear hc hgx
     cases A with
     | true =>
       go_wp2_with (at_lookup;refine aa _ rfl _ _ _ _ rfl _ _ _ rfl rfl (L1.out _ (hA1 _)) ?_)
       have HNEW:=h_ (fun o o_=>HSKA.out _ (bN wr o o_) (by first|rfl|trivial))
       go_roundw
       case rel=>exact⟨k+1,by omega,by go_num,HNEW.out _ _⟩
       case measure=>simp [intOf];omega
     | false =>
       go_wp2_with (at_lookup;refine aa _ rfl _ _ _ _ rfl _ _ _ rfl rfl (L1.out _ (hA1 _)) ?_)
       refine(HADD.out _ (hA2 _ _)).mono ?_
       rintro e w2 ⟨rfl,hb2⟩
       have hX3:=HTX.out _ _ (hX2 _) hb2
       have hA3:=HA.out _ hX3
       have HR3:=h_ (HR.out _ hX3)
       clear hb2 hX2 hA1 hA2 d0 d1 d2 d3 d4 d5 d6
       cases D with
       | false =>
         go_wp2_with fail
         have HNEW:=h_ (HSKD.out _ HR3.out (by first|rfl|trivial))
         go_roundw
         case rel=>exact⟨k+1,by omega,by go_num,HNEW.out⟩
         case measure=>simp [intOf];omega
       | true =>
         have hX4:=HXA.out _ hX3
         have hA4:∀ o,fN wc.heap.size wc (w2.alloc o):=fun o=>HA.out _ (hX4 o)
         have HBW:=h_ (fun o=>HR.out _ (hX4 o))
         cases C with
         | false =>
           obtain rfl:M=false:=by
            rcases HMM.out with h|h
            · exact h.2
            · cases h.1
           clear HMM
           go_wp2_with (first
            | (at_lookup;refine aa _ rfl _ _ _ _ rfl _ _ _ rfl rfl (L2.out _ (hA3)) ?_)
            | (at_builtin;refine aA _ _ rfl (.tmp 70) (.tmp 73) 85 rfl wc.heap.size 2 j0 _ 1 8 Tryz.underlying85 JI.out J0.out J1.out J2.out rfl (by decide) _ _ _ rfl (aq HO.out (HBW.out _)) _ rfl (by first|rfl|simp) rfl ?h1 h63.out hby.out (fO HWS.out (HBW.out _).size) ?_;(case h1=>first|rfl|(intro u hu;simp at hu;subst hu;rfl));intro v' w7 hown7 hgrow7 _;have HNEW:=h_ (HPU.out (by first|rfl|trivial) (by first|rfl|trivial) (by first|rfl|trivial) _ v' w7 _ (HBW.out _) hown7 rfl hgrow7);clear hown7 hgrow7))
           go_roundw
           case rel=>exact⟨k+1,by omega,by go_num,HNEW.out⟩
           case measure=>simp [intOf];omega
         | true =>
           obtain⟨hMe,hmem⟩:M=evEq ⟨xid,xin,xout,xreg,xkind,xsp,xxa,xxc,xxr⟩ ⟨qid,qin,qout,qreg,qkind,qsp,qxa,qxc,qxr⟩∧(⟨qid,qin,qout,qreg,qkind,qsp,qxa,qxc,qxr⟩:Ev)∈aevs:=by
            rcases HMM.out with h|h
            · cases h.1
            · exact h.2
           have HMEM:=h_ hmem
           rw [←hMe] at HSM
           clear HMM hmem hMe
           go_wp2_with (at_lookup;refine aa _ rfl _ _ _ _ rfl _ _ _ rfl rfl (L2.out _ (hA3)) ?_)
           refine(HSM.out HMEM.out _ (hA4 _)).mono ?_
           rintro e w3 ⟨rfl,hb3⟩
           have hX5:=HTX.out _ _ (hX4 _) hb3
           have hA5:=HA.out _ hX5
           have HBW5:=h_ (HR.out _ hX5)
           clear hb3
           cases M with
           | true =>
             go_wp2_with fail
             have HNEW:=h_ (HSKM.out _ (HR.out _ hX5) (by first|rfl|trivial))
             go_roundw
             case rel=>exact⟨k+1,by omega,by go_num,HNEW.out⟩
             case measure=>simp [intOf];omega
           | false =>
             go_wp2_with (first
              | (at_lookup;refine aa _ rfl _ _ _ _ rfl _ _ _ rfl rfl (L2.out _ (hA3)) ?_)
              | (at_builtin;refine aA _ _ rfl (.tmp 70) (.tmp 73) 85 rfl wc.heap.size 2 j0 _ 1 8 Tryz.underlying85 JI.out J0.out J1.out J2.out rfl (by decide) _ _ _ rfl (aq HO.out (HBW5.out)) _ rfl (by first|rfl|simp) rfl ?h1 h63.out hby.out (fO HWS.out (HBW5.out).size) ?_;(case h1=>first|rfl|(intro u hu;simp at hu;subst hu;rfl));intro v' w7 hown7 hgrow7 _;have HNEW:=h_ (HPU.out (by first|rfl|trivial) (by first|rfl|trivial) (by first|rfl|trivial) _ v' w7 _ (HBW5.out) hown7 rfl hgrow7);clear hown7 hgrow7))
             go_roundw
             case rel=>exact⟨k+1,by omega,by go_num,HNEW.out⟩
             case measure=>simp [intOf];omega
   · obtain rfl:k=devs.length:=by omega
     have hkb:=hrel.2
     have hw1:fN wc.heap.size wc wr:=hkb
     have HREL:=h_ hrel
     clear hrel
     go_wp2_with fail
     go_loopw [9,79] (fun v i wr=>∃ k:Nat,k≤dcms.length∧i=.int .i64 k∧ORel (IDS devs.length k) wc v wr) (fun _ i _=>dcms.length-(intOf i).toNat)
     case atStart=>exact⟨0,by omega,rfl,HREL.out⟩
     case round =>
      clear HREL hkb hw1 hk hlt
      obtain⟨k,hk,rfl,hrel⟩:=hrel
      by_cases hlt:k<dcms.length
      · have hb:=hrel.2
        have HWS:=h_ hb.size
        have HO:=h_ hrel.1
        have hws:=hb.size
        obtain⟨b,off,x,rfl,hbl,hx,hc,hok⟩:=((HDC.out.later (HB.out _ hcw)).later hb).at_ hlt
        have hft:=HFC.out x (fm hx)
        have hid:i64 x.id:=hft.1
        have hA1:∀ o,fN wc.heap.size wc (wr.alloc o):=fun o=>hb.alloc hb.size o
        have hA2:∀ o o',fN wc.heap.size wc ((wr.alloc o).alloc o'):=fun o o'=>(hA1 o).alloc (hA1 o).size o'
        obtain⟨e1,h1,_⟩:=zgQ hMB.cm hid
        obtain⟨e2,h2,he2⟩:=zgQ hMA.cm hid
        have L1:=h_ (fun(w1:fI) (h:fN wc.heap.size wc w1)=>h1 w1 (h.block _ hMB.cm.lt))
        have L2:=h_ (fun(w1:fI) (h:fN wc.heap.size wc w1)=>h2 w1 (h.block _ hMA.cm.lt))
        have HADD:=h_ (fun(w1:fI) (h:fN wc.heap.size wc w1)=>zd3 b1 b2 c1 c2 n n bevs aevs bcms acms x.id w1 (hMB.later h) (hMA.later h) hid)
        have hP:=HPC.out x
        have hM:∃ M:Bool,PC x=(!aJ bcms x.id&&(zbA bevs aevs bcms acms x.id&&!M))∧((aJ acms x.id=false∧M=false)∨(aJ acms x.id=true∧M=cmEq x e2∧e2∈acms)):=by
         unfold aJ at *
         cases hfd:acms.find? (fun y=>y.id==x.id) with
         | none =>
           rw [hfd] at hP
           exact⟨false,hP,.inl ⟨rfl,rfl⟩⟩
         | some y =>
           rw [hfd] at hP he2
           obtain rfl:e2=y:=he2
           exact⟨cmEq x e2,hP,.inr ⟨rfl,rfl,fp hfd⟩⟩
        have HX:=h_ (HIC.out k x hx)
        have hgx:=fun j v h=>ab wr (x.enc).toArray 52 j v h
        have HR:=h_ (fun w1 (h:fN (wr.heap.size+1) (wr.alloc (.cells (x.enc).toArray 52)) w1)=>(((fY wr.heap.size wr).alloc (fP _) _).trans (h.mono (by omega)):fN wr.heap.size wr w1))
        have HA:=h_ (fun w1 (h:fN (wr.heap.size+1) (wr.alloc (.cells (x.enc).toArray 52)) w1)=>(hb.trans ((HR.out w1 h).mono hb.size):fN wc.heap.size wc w1))
        have HTX:=h_ (fun(w1 w2:fI) (h:fN (wr.heap.size+1) (wr.alloc (.cells (x.enc).toArray 52)) w1) (h2:fN w1.heap.size w1 w2)=>(h.trans (h2.mono (by have:=h.size;rw [gh] at this;exact this)):fN (wr.heap.size+1) (wr.alloc (.cells (x.enc).toArray 52)) w2))
        have hX1:fN (wr.heap.size+1) (wr.alloc (.cells (x.enc).toArray 52)) (wr.alloc (.cells (x.enc).toArray 52)):=fY _ _
        have hX2:∀ o',fN (wr.heap.size+1) (wr.alloc (.cells (x.enc).toArray 52)) ((wr.alloc (.cells (x.enc).toArray 52)).alloc o'):=fun o'=>hX1.alloc (by simp) o'
        have HXA:=h_ (fun(w1:fI) (h:fN (wr.heap.size+1) (wr.alloc (.cells (x.enc).toArray 52)) w1) (o:Obj)=>HTX.out w1 (w1.alloc o) h ((fY _ _).alloc (fP _) o))
        have HSM:=h_ (fun wx=>zb8 x e2 wx)
        have HSKIP:=h_ (fun(w1:fI) (h:fN wr.heap.size wr w1) (hp:PC x=false)=>(show ORel (IDS devs.length (k+1)) wc u9 w1 from by
         rw [HX.out,hp]
         exact⟨aq HO.out h,hb.trans (h.mono hb.size)⟩))
        have HPUSH:=h_ (fun(hp:PC x=true) (W:fI) (v':fL) (w7:fI) (cs:Array fL) (hW:fN wr.heap.size wr W) (ho:w7.ownsRow wc.heap.size 2 1 v' ((IDS devs.length (k)).length+1) ((IDS devs.length (k)).map (fH .i64)++cs.toList)) (hcs:cs=#[.int .i64 x.id]) (hg:(W.alloc (.cells cs 2)).grownBy w7 u9.ownBlock)=>(show ORel (IDS devs.length (k+1)) wc v' w7 from by
         rw [HX.out,hp]
         exact ORel.push ⟨HO.out,hb⟩ hW ho hcs hg))
        have hil:=HIL.out devs.length k
        have h63:=h_ (show(IDS devs.length (k)).length+1≤maxLen by have:=HDL.out;unfold maxLen;omega)
        have hby:=h_ (show((IDS devs.length (k)).length+1)*8≤140737488355328 by have:=HDL.out;omega)
        have hbw:=hb
        clear hP hx he2 hok hft hid h1 h2 hrel hb hil hX1
        obtain⟨M,hPM,hMM⟩:=hM
        generalize aJ bcms x.id=A at *
        generalize aJ acms x.id=C at *
        generalize zbA bevs aevs bcms acms x.id=D at *
        have HSKA:=h_ (fun(w1:fI) (h:fN wr.heap.size wr w1) (ha:A=true)=>HSKIP.out w1 h (by rw [hPM,ha];rfl))
        have HSKD:=h_ (fun(w1:fI) (h:fN wr.heap.size wr w1) (ha:D=false)=>HSKIP.out w1 h (by rw [hPM,ha];cases A<;>rfl))
        have HSKM:=h_ (fun(w1:fI) (h:fN wr.heap.size wr w1) (ha:M=true)=>HSKIP.out w1 h (by rw [hPM,ha];cases A<;>cases D<;>rfl))
        have HPU:=h_ (fun(h1:A=false) (h2:D=true) (h3:M=false)=>HPUSH.out (by rw [hPM,h1,h2,h3];rfl))
        have HMM:=h_ hMM
        clear hPM hMM HSKIP HPUSH HX
        obtain⟨xid,xcev,xfrm,xtil,xau,xtx,xdn,xlo⟩:=x
        obtain⟨pid,pcev,pfrm,ptil,pau,ptx,pdn,plo⟩:=e1
        obtain⟨qid,qcev,qfrm,qtil,qau,qtx,qdn,qlo⟩:=e2
        have d0:=hc 0 _ rfl;have d1:=hc 1 _ rfl;have d2:=hc 2 _ rfl;have d3:=hc 3 _ rfl;have d4:=hc 4 _ rfl;have d5:=hc 5 _ rfl;have d6:=hc 6 _ rfl;have d7:=hc 7 _ rfl
        have x0:=hgx 0 _ rfl;have x1:=hgx 1 _ rfl;have x2:=hgx 2 _ rfl;have x3:=hgx 3 _ rfl;have x4:=hgx 4 _ rfl;have x5:=hgx 5 _ rfl;have x6:=hgx 6 _ rfl;have x7:=hgx 7 _ rfl
        simp only [fV,Cm.enc] at d0 d1 d2 d3 d4 d5 d6 d7 x0 x1 x2 x3 x4 x5 x6 x7 L1 L2 HR HA HTX hX2 HXA HSM HPU
        clear hc hgx
        cases A with
        | true =>
          go_wp2_with (at_lookup;refine aa _ rfl _ _ _ _ rfl _ _ _ rfl rfl (L1.out _ (hA1 _)) ?_)
          have HNEW:=h_ (fun o o_=>HSKA.out _ (bN wr o o_) (by first|rfl|trivial))
          go_roundw
          case rel=>exact⟨k+1,by omega,by go_num,HNEW.out _ _⟩
          case measure=>simp [intOf];omega
        | false =>
          go_wp2_with (at_lookup;refine aa _ rfl _ _ _ _ rfl _ _ _ rfl rfl (L1.out _ (hA1 _)) ?_)
          refine(HADD.out _ (hA2 _ _)).mono ?_
          rintro e w2 ⟨rfl,hb2⟩
          have hX3:=HTX.out _ _ (hX2 _) hb2
          have hA3:=HA.out _ hX3
          have HR3:=h_ (HR.out _ hX3)
          clear hb2 hX2 hA1 hA2 d0 d1 d2 d3 d4 d5 d6 d7
          cases D with
          | false =>
            go_wp2_with fail
            have HNEW:=h_ (HSKD.out _ HR3.out (by first|rfl|trivial))
            go_roundw
            case rel=>exact⟨k+1,by omega,by go_num,HNEW.out⟩
            case measure=>simp [intOf];omega
          | true =>
            have hX4:=HXA.out _ hX3
            have hA4:∀ o,fN wc.heap.size wc (w2.alloc o):=fun o=>HA.out _ (hX4 o)
            have HBW:=h_ (fun o=>HR.out _ (hX4 o))
            cases C with
            | false =>
              obtain rfl:M=false:=by
               rcases HMM.out with h|h
               · exact h.2
               · cases h.1
              clear HMM
              go_wp2_with (first
               | (at_lookup;refine aa _ rfl _ _ _ _ rfl _ _ _ rfl rfl (L2.out _ (hA3)) ?_)
               | (at_builtin;refine aA _ _ rfl (.tmp 115) (.tmp 118) 85 rfl wc.heap.size 2 j0 _ 1 8 Tryz.underlying85 JI.out J0.out J1.out J2.out rfl (by decide) _ _ _ rfl (aq HO.out (HBW.out _)) _ rfl (by first|rfl|simp) rfl ?h1 h63.out hby.out (fO HWS.out (HBW.out _).size) ?_;(case h1=>first|rfl|(intro u hu;simp at hu;subst hu;rfl));intro v' w7 hown7 hgrow7 _;have HNEW:=h_ (HPU.out (by first|rfl|trivial) (by first|rfl|trivial) (by first|rfl|trivial) _ v' w7 _ (HBW.out _) hown7 rfl hgrow7);clear hown7 hgrow7))
              go_roundw
              case rel=>exact⟨k+1,by omega,by go_num,HNEW.out⟩
              case measure=>simp [intOf];omega
            | true =>
              obtain⟨hMe,hmem⟩:M=cmEq ⟨xid,xcev,xfrm,xtil,xau,xtx,xdn,xlo⟩ ⟨qid,qcev,qfrm,qtil,qau,qtx,qdn,qlo⟩∧(⟨qid,qcev,qfrm,qtil,qau,qtx,qdn,qlo⟩:Cm)∈acms:=by
               rcases HMM.out with h|h
               · cases h.1
               · exact h.2
              have HMEM:=h_ hmem
              rw [←hMe] at HSM
              clear HMM hmem hMe
              have hcmp:=HSM.out
              cases M with
              | true =>
                go_wp2_with (at_lookup;refine aa _ rfl _ _ _ _ rfl _ _ _ rfl rfl (L2.out _ (hA3)) ?_)
                have HNEW:=h_ (fun o=>HSKM.out _ (HR.out _ (hX4 o)) (by first|rfl|trivial))
                go_roundw
                case rel=>exact⟨k+1,by omega,by go_num,HNEW.out _⟩
                case measure=>simp [intOf];omega
              | false =>
                go_wp2_with (first
                 | (at_lookup;refine aa _ rfl _ _ _ _ rfl _ _ _ rfl rfl (L2.out _ (hA3)) ?_)
                 | (at_builtin;refine aA _ _ rfl (.tmp 115) (.tmp 118) 85 rfl wc.heap.size 2 j0 _ 1 8 Tryz.underlying85 JI.out J0.out J1.out J2.out rfl (by decide) _ _ _ rfl (aq HO.out (HBW.out _)) _ rfl (by first|rfl|simp) rfl ?h1 h63.out hby.out (fO HWS.out (HBW.out _).size) ?_;(case h1=>first|rfl|(intro u hu;simp at hu;subst hu;rfl));intro v' w7 hown7 hgrow7 _;have HNEW:=h_ (HPU.out (by first|rfl|trivial) (by first|rfl|trivial) (by first|rfl|trivial) _ v' w7 _ (HBW.out _) hown7 rfl hgrow7);clear hown7 hgrow7))
                go_roundw
                case rel=>exact⟨k+1,by omega,by go_num,HNEW.out⟩
                case measure=>simp [intOf];omega
      · obtain rfl:k=dcms.length:=by omega
        obtain⟨ho,hbE⟩:=hrel
        obtain⟨av,cv,rfl⟩:∃ a c,u9=.slice a (IDS devs.length dcms.length).length c:=by
         rcases ho.2 with⟨rfl,h0⟩|⟨g,cap,_,rfl,_⟩
         · exact⟨none,0,by rw [h0]⟩
         · exact⟨_,_,rfl⟩
        have hil:=HIL.out devs.length dcms.length
        have HF1:=h_ (dY wc.heap.size _ _ wr ho (by omega) hbE.size)
        have HSL:=h_ (show(bo (IDS devs.length dcms.length)).length≤8000000 by unfold bo;rw [List.length_mergeSort];omega)
        have HBE:=h_ hbE
        have hlw:=hbE.size
        have HQ2:=h_ HQ.out
        generalize IDS devs.length dcms.length=ids at *
        clear ho hbE hil HIE HIC HIL HI0 HPE HPC HAE HFE HFC HDE HDC k70 k71 k80 k81
        go_wp2_with fail
        refine HF1.out.mono ?_
        rintro e w2 ⟨rfl,ho2,hb2⟩
        have hc2:=HBE.out.trans hb2
        have HO2:=h_ ho2
        have HC2:=h_ hc2
        have hA2:∀ o,fN wc.heap.size wc (w2.alloc o):=fun o=>hc2.alloc hc2.size o
        clear ho2 hb2 HF1
        go_wp2_with fail
        refine(zbw wc.heap.size _ _ _ (aq HO2.out ((fY _ _).alloc (fP _) _)) HSL.out).mono ?_
        rintro e w3 ⟨v3,rfl,ho3,hob,hb3,hk3⟩
        have hmw:wc.heap.size≤w2.heap.size:=HC2.out.size
        have hlt2:=fun b (e:(fL.slice av ids.length cv).ownBlock=some b)=>(HO2.out.lt b e).2
        have HMAP:=h_ ((VMap.made w2).kept (hk3.block w2.heap.size (by simp) (fun e=>fU _ (hlt2 _ e))))
        have hmb:w2.heap.size<w3.heap.size:=by have:=hk3.size;simp at this;omega
        have HNB:=h_ (fun(e:v3.ownBlock=some w2.heap.size)=>fU _ (hlt2 _ (hob.symm.trans e)))
        have HC3:=h_ ((hA2 _).trans hb3:fN wc.heap.size wc w3)
        have HI6:=h_ (fun z (hz:z∈gj (bo ids))=>HI64.out z (((c9 ids).2 z).1 hz))
        have HCL:=h_ (show(gj (bo ids)).length≤8000000 from fO (gl _) HSL.out)
        generalize gj (bo ids)=C at *
        obtain⟨a3,c3,rfl⟩:∃ a c,v3=.slice a C.length c:=by
         rcases ho3.2 with⟨rfl,h0⟩|⟨g,cap,_,rfl,_⟩
         · exact⟨none,0,by rw [h0]⟩
         · exact⟨_,_,rfl⟩
        have HO3:=h_ ho3
        generalize hL0:max ala dla=L0 at *
        have hL1:0≤L0:=by omega
        have hL2:L0≤1099511627776:=by omega
        have hcl:=HCL.out
        clear hL0 ho3 hob hb3 hk3 hlt2 HO2 HC2 HSL hA2 HI64 ka kd hla hld
        generalize w2.heap.size=mb at *
        go_wp2_with fail
        go_loopw [23,132] (fun nx i wr=>∃ k:Nat,k≤C.length∧i=.int .i64 k∧nx=.int .i64 (L0+k)∧VMap wr mb k (fun z=>(zfQ C L0 k z).map (fH .i64))∧Kept (fun b=>b=mb) w3 wr) (fun _ i _=>C.length-(intOf i).toNat)
        case atStart=>exact⟨0,by omega,rfl,by simp,HMAP.out,Kept.refl _ _⟩
        case round =>
         clear HMAP
         obtain⟨k,hk,rfl,rfl,hM,hK⟩:=hrel
         by_cases hlt:k<C.length
         · have hown:=ah HO3.out (fun b e=>hK.block b (HO3.out.lt b e).2 (fun e2=>HNB.out (by rw [e,e2])))
           obtain⟨gC,cC,he⟩:=zat hown (by omega)
           simp only [fL.slice.injEq,true_and] at he
           obtain⟨rfl,rfl⟩:=he
           obtain⟨z,hz⟩:∃ z,C[k]? =some z:=⟨_,List.getElem?_eq_getElem hlt⟩
           have hc0:wr.cell? ⟨gC,k,none⟩=some (.int .i64 z):=by
            rw [hown.cellAt k (by simpa using hlt),List.getElem?_map,hz]
            rfl
           have HZ:=h_ (HI6.out z (fm hz))
           have HMM:=h_ hM
           have HKK:=h_ hK
           have HREN:=h_ (zig C L0 k z hz)
           have hwa:IntKind.i64.wrap (L0+k+1)=L0+k+1:=wrap64_in (by omega) (by omega)
           clear hown hz hM hK
           go_wp2_with (at_mapUpdate;refine cx _ rfl _ _ _ 137 2 rfl Tryz.underlying137 mb k _ rfl HMM.out (by unfold maxLen;omega) _ rfl HZ.out (.int .i64 (L0+k+1)) rfl ?_;intro w5 h5 hg5;have HM5:=h_ h5;have HG5:=h_ hg5;clear h5 hg5)
           go_roundw
           case rel=>exact⟨k+1,by omega,by go_num,by simp;omega,by rw [←HREN.out];exact HM5.out,HKK.out.andGrown HG5.out (fun j hj _=>(Option.some.inj hj).symm)⟩
           case measure=>simp [intOf];omega
         · obtain rfl:k=C.length:=by omega
           have HMM:=h_ hM
           have HKK:=h_ hK
           clear hM hK
           go_wp2_with fail
           rw [←HQ2.out]
           exact⟨mb,rfl,HMM.out,fO (HB.out _ HCW.out).size hmw,(HB.out _ HCW.out).trans (((HC3.out.mono (HB.out _ HCW.out).size)).trans (HKK.out.below (fO (HB.out _ HCW.out).size HC3.out.size) (fun j hj e=>by have:=(HB.out _ HCW.out).size;omega)))⟩
end Go.Proofs.YtnlnmbcaongehaaGreatDoor
