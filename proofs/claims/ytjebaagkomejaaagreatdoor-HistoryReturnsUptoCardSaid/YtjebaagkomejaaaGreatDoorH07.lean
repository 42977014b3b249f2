/- DERIVED: THE SHELF's CONTRACTS AT THIS DUMP, IN PLAIN WORDS (tools/lay-plain.mjs out of 'YtjebaagkomejaaaGreatDoorShelfRs.lean', which tools/lay-shelf.mjs wrote): THE SAME DECLARATIONS UNDER THE SAME NAMES: 'import', 'namespace', 'open', -/
import Derived.Shelf.Utf8.AppendRunePlain
import Derived.Lib.OwnBridge
import Derived.Deep.RegionHeld3
import Derived.Shelf.Spec.SlicesGrow
import Derived.Test.YtjebaagkomejaaaGreatDoorH04
import Derived.Test.YtjebaagkomejaaaGreatDoorH03
set_option linter.unusedVariables false
set_option linter.unusedSimpArgs false
set_option maxRecDepth 100000
set_option maxHeartbeats 12800000
open Go.Lib renaming hid→h_
open Go renaming World→Sh,info_parts→Si,Calls→Sj,Value→Sk
open Go.Lib renaming run_eql_slice_nil→Sl,runeCells→Sm
open List renaming getElem?_eq_some_iff→Sn,not_mem_nil→Sp,mem_cons→Sq,drop_eq_getElem_cons→Sr
open Go.RowKit renaming Below→Ss
open Go.RowKit.Below renaming refl→St
open Go.Value renaming ownBlock→Su,int→Sv
open Nat renaming le_refl→Sw,zero_le→Sx,add_zero→Sy
open Go.World renaming ownsRow_nil→Sz,ownsRow_made→SA
namespace Go.Proofs
open Go.Shelf
def Tryz.lays242_ren:Go.Shelf.Ren:=⟨fun|242=>243|278=>256|n=>n,fun|37=>230|21=>21|51=>261|4=>4|5=>5|46=>216|n=>n,fun|n=>n⟩
theorem Tryz.lays242:Go.Proofs.Lays.n242 Tryz.prog Tryz.lays242_ren:={
 mixed:=by kernel_rfl
 f242:=Tryz.func243.trans (congrArg some (by kernel_rfl))
 f278:=Tryz.func256.trans (congrArg some (by kernel_rfl))
 t4:=Tryz.underlying4
 a4:=Tryz.isAgg4
 z4:=Tryz.sizeOf4
 v4:=Tryz.zeroValue4
 t5:=Tryz.underlying5
 a5:=Tryz.isAgg5
 z5:=Tryz.sizeOf5
 v5:=Tryz.zeroValue5
 t21:=Tryz.underlying21
 a21:=Tryz.isAgg21
 z21:=Tryz.sizeOf21
 v21:=Tryz.zeroValue21
 t37:=Tryz.underlying230
 a37:=Tryz.isAgg230
 z37:=Tryz.sizeOf230
 v37:=Tryz.zeroValue230
 t46:=Tryz.underlying216
 a46:=Tryz.isAgg216
 z46:=Tryz.sizeOf216
 v46:=Tryz.zeroValue216
 t51:=Tryz.underlying261
 a51:=Tryz.isAgg261
 z51:=Tryz.sizeOf261
 v51:=Tryz.zeroValue261 }
theorem Tryz.utf8_AppendRune (B:Nat)(v:Sk)(n:Nat)(xs:List Sk)(r:Int)(hr0:-2147483648≤r)(hr1:r≤2147483647)(w:Sh)(hown:w.ownsRow B 5 1 v n xs)(hlen:n+4≤140737488355328)(hBw:B≤w.heap.size) :
 Sj Tryz.prog 243 #[v,.int .i32 r] w fun e w'=>∃ v',e=.returned v'∧w'.ownsRow B 5 1 v' (n+(Sm r).length) (xs++Sm r)∧∃ o,(w.alloc o).grownBy w' v.ownBlock:=Any.utf8_AppendRune_plain Tryz.lays242 (by kernel_rfl) B v n xs r hr0 hr1 w hown hlen hBw
end Go.Proofs
namespace Go.Proofs.YtjebaagkomejaaaGreatDoor
open Go.RowKit
def eE (prev:Option ByteArray)(x:Reg):Int :=
 if (fo x != 0)=true then fo x else match prev with
  | none=>0
  | some p=>if (x.name.toList==p.toList)=true then 7 else if Op.bytesLess x.name.toList p.toList=true then 8 else 0
def dL:Option ByteArray→List Reg→Int
 | _,[]=>0
 | prev,x::l=>if (eE prev x != 0)=true then eE prev x else dL (some x.name) l
def gI (xs:List Reg):Int:=if 16<xs.length then 9 else dL none xs
def gX (xs:List Reg):Nat→Option ByteArray
 | 0=>none
 | k+1=>(xs[k]?).map Reg.name
theorem pY (xs:List Reg)(k:Nat)(x:Reg)(hx:xs[k]? =some x)(prev:Option ByteArray)(h:eE prev x=0):dL prev (xs.drop k)=dL (gX xs (k+1)) (xs.drop (k+1)):=by
 have hk:k<xs.length:=(Sn.1 hx).1
 have e:xs[k]=x:=(Sn.1 hx).2
 rw [Sr hk,e,dL,h]
 simp [gX,hx]
theorem pX (xs:List Reg)(k:Nat)(x:Reg)(hx:xs[k]? =some x)(prev:Option ByteArray)(h:(eE prev x != 0)=true):dL prev (xs.drop k)=eE prev x:=by
 have hk:k<xs.length:=(Sn.1 hx).1
 have e:xs[k]=x:=(Sn.1 hx).2
 rw [Sr hk,e,dL,if_pos h]
theorem zK (a:Option Addr)(cap:Nat)(xs:List Reg)(w:Sh)(hn:16<xs.length) :
 Sj Tryz.prog 64 #[.slice a xs.length cap] w fun e w'=>e=.returned (.int .i64 (gI xs))∧Ss w.heap.size w w':=by
 rw [gI,if_pos hn]
 have hn':(16:Int)<(xs.length:Int):=by omega
 go_enter Tryz.func64,Tryz.ntmps64
 go_wp2_with fail
 go_ret
 exact⟨rfl,St _ _⟩
theorem oF (d:Doc)(c:Cm)(b n:Nat)(f:Int→Option Nat)(w:Sh)(hE:Env w)(hd:dG w d.ea d.eV)(eu:∀ x∈d.eV,x.fits)(hle:d.eV.length≤4000000)(hc:c.fits)(hM:IMap w b n f)(hf:∀ z i,f z=some i→i<d.eV.length) :
 Sj Tryz.prog 120 #[.agg d.enc.toArray,.agg c.enc.toArray,.map (some b)] w fun e w'=>e=.returned (.int .i64 (ct d.last f d.eV c))∧Ss w.heap.size w w':=by
 have hcs:=yf d.last f d.eV c hf
 generalize ct d.last f d.eV c=G at *
 obtain⟨title,lA,rate,drop,last,ra,rc,rG,ea,ec,eV,ca,cc,cM⟩:=d
 obtain⟨_,hi2,hi3,hi4,_,_⟩:=hc
 obtain⟨id,ev,frm,til,author,text,done,lost⟩:=c
 simp only at hcs hi2 hi3 hi4 hd eu hf hle
 simp only [Doc.enc,Cm.enc]
 generalize hds:#[Sk.string title,.string lA,.int .u8 rate,.bool drop,.int .i64 last,.slice ra rG.length rc,.slice ea eV.length ec,.slice ca cM.length cc]=ds
 generalize uF:#[Sv .i64 id,.int .i64 ev,.int .i64 frm,.int .i64 til,.string author,.string text,.bool done,.bool lost]=qs
 have f4:=dB w ds qs 27 102 4 (.int .i64 last) (by rw [←hds];rfl)
 have f6:=dB w ds qs 27 102 6 (.slice ea eV.length ec) (by rw [←hds];rfl)
 have g1:=cW w ds qs 27 102 1 (.int .i64 ev) (by rw [←uF];rfl)
 have g2:=cW w ds qs 27 102 2 (.int .i64 frm) (by rw [←uF];rfl)
 have g3:=cW w ds qs 27 102 3 (.int .i64 til) (by rw [←uF];rfl)
 have g7:=cW w ds qs 27 102 7 (.bool lost) (by rw [←uF];rfl)
 have HB:=h_ (fun(w1:Sh) (h:Ss (w.heap.size+2) ((w.alloc (.cells ds 27)).alloc (.cells qs 102)) w1)=>fH h)
 have hb0:Ss (w.heap.size+2) ((w.alloc (.cells ds 27)).alloc (.cells qs 102)) ((w.alloc (.cells ds 27)).alloc (.cells qs 102)):=St _ _
 have hsz:((w.alloc (.cells ds 27)).alloc (.cells qs 102)).heap.size=w.heap.size+2:=by simp
 have gO:=h_ ((hM.below (HB.out _ hb0) hM.lt).look hi2)
 generalize hW0:(w.alloc (.cells ds 27)).alloc (.cells qs 102)=W0 at *
 have HW0:=h_ hW0
 have dV:=h_ hsz
 have HD:=h_ hd
 have ew:=h_ eu
 clear hW0 hsz hd eu hf hM
 have hlk:=gO.out
 rw [←HW0.out] at hlk
 clear gO
 go_enter Tryz.func120,Tryz.ntmps120
 subst hds
 subst uF
 rcases hcs with⟨rfl,h1⟩|⟨rfl,h1,h2⟩|⟨h1,h2,⟨rfl,⟨rfl,h3⟩|⟨rfl,rfl,h3⟩|⟨rfl,rfl,rfl⟩⟩|⟨rfl,⟨hq,rfl⟩|⟨i,x,hq,hi,hx,hcs⟩⟩⟩
 · clear hlk
   go_wp2_with fail
   rw [HW0.out]
   go_ret
   exact⟨rfl,HB.out _ hb0⟩
 · clear hlk
   go_wp2_with fail
   rw [HW0.out]
   go_ret
   exact⟨rfl,HB.out _ hb0⟩
 · have uL:(frm != 0)=true:=by simpa using h3
   clear hlk h3
   go_wp2_with fail
   rw [HW0.out]
   go_ret
   exact⟨rfl,HB.out _ hb0⟩
 · have uL:(til != 0)=true:=by simpa using h3
   clear hlk h3
   go_wp2_with fail
   rw [HW0.out]
   go_ret
   exact⟨rfl,HB.out _ hb0⟩
 · clear hlk
   go_wp2_with fail
   rw [HW0.out]
   go_ret
   exact⟨rfl,HB.out _ hb0⟩
 · rw [hq] at hlk
   simp only [Option.isSome_none,Option.getD_none] at hlk
   have gO:=h_ hlk
   clear hq hlk
   go_wp2_with (at_lookup;refine ay _ rfl _ _ _ _ rfl _ _ _ rfl rfl gO.out ?_)
   rw [HW0.out]
   go_ret
   exact⟨rfl,HB.out _ hb0⟩
 · rw [hq] at hlk
   simp only [Option.isSome_some,Option.getD_some] at hlk
   have gO:=h_ hlk
   clear hlk
   obtain⟨bb,off,x',rfl,hbl,hx',hcx,hok0⟩:=HD.out.at_ hi
   have hok:=Ev.keeps _ _ _ (HB.out _ hb0) hok0
   obtain rfl:x'=x:=Option.some.inj (hx'.symm.trans hx)
   have hfx:=ew.out x' (List.mem_of_getElem? hx)
   have Ay:Ss (w.heap.size+2) W0 W0.drew:=hb0.drew
   have HLen:=h_ (nk x' W0.drew (hE.below (HB.out _ Ay) (Sw _)) (Ev.keeps _ _ _ ((St W0.heap.size W0).drew) hok) hfx)
   have hcd:∀ j v,x'.enc[j]? =some v→∀ w1,Ss (w.heap.size+2) W0 w1→w1.cell? ⟨bb,off+i*7+j,none⟩=some v:=fun j v hv w1 h=>by
    rw [(HB.out _ h).cell (p:=⟨bb,off+i*7+j,none⟩) hbl]
    exact hcx j v hv
   clear hq hx hx' hcx hok hok0 hfx
   obtain⟨xid,xin,xout,xreg,xkind,xsp,xa,xc,xrows⟩:=x'
   have tn:=h_ hcd
   simp only [Ev.enc] at HLen hcs tn
   generalize gK xrows=L at *
   clear hcd
   rcases hcs with⟨rfl,h3⟩|⟨rfl,h3,h4⟩|⟨h3,h4,⟨rfl,h5⟩|⟨rfl,h5⟩⟩
   · have uL:decide (frm<0)=true:=by simp;omega
     clear HLen hbl
     go_wp2_with (at_lookup;refine ay _ rfl _ _ _ _ rfl _ _ _ rfl rfl gO.out ?_)
     rw [HW0.out]
     go_quiet (fail)
     go_wp2_with fail
     go_ret
     exact⟨rfl,HB.out _ (below_drewN hb0 _)⟩
   · have uL:decide (frm<0)=false:=by simp;omega
     have MH:decide (til≤frm)=true:=by simp;omega
     clear HLen hbl
     go_wp2_with (at_lookup;refine ay _ rfl _ _ _ _ rfl _ _ _ rfl rfl gO.out ?_)
     rw [HW0.out]
     go_quiet (fail)
     go_wp2_with fail
     go_ret
     exact⟨rfl,HB.out _ (below_drewN hb0 _)⟩
   · have uL:decide (frm<0)=false:=by simp;omega
     have MH:decide (til≤frm)=false:=by simp;omega
     have OA:decide (L<til)=true:=by simp;omega
     go_wp2_with (at_lookup;refine ay _ rfl _ _ _ _ rfl _ _ _ rfl rfl gO.out ?_)
     rw [HW0.out]
     have d0:=tn.out 0 _ rfl;have d1:=tn.out 1 _ rfl;have d2:=tn.out 2 _ rfl;have d3:=tn.out 3 _ rfl;have d4:=tn.out 4 _ rfl;have d5:=tn.out 5 _ rfl;have d6:=tn.out 6 _ rfl
     simp only [Sy] at d0
     clear tn gO HD ew hE
     go_region_with (go_at_call 92;refine HLen.out.mono ?_;rintro e w1 ⟨rfl,hb1⟩;replace hb1:Ss (w.heap.size+2) W0 w1:=Ay.trans (hb1.mono (by have:=Ay.size;rw [dV.out] at this;exact this)))
     all_goals
      go_wp2_with fail
      go_ret
      exact⟨rfl,HB.out _ hb1⟩
   · have uL:decide (frm<0)=false:=by simp;omega
     have MH:decide (til≤frm)=false:=by simp;omega
     have OA:decide (L<til)=false:=by simp;omega
     go_wp2_with (at_lookup;refine ay _ rfl _ _ _ _ rfl _ _ _ rfl rfl gO.out ?_)
     rw [HW0.out]
     have d0:=tn.out 0 _ rfl;have d1:=tn.out 1 _ rfl;have d2:=tn.out 2 _ rfl;have d3:=tn.out 3 _ rfl;have d4:=tn.out 4 _ rfl;have d5:=tn.out 5 _ rfl;have d6:=tn.out 6 _ rfl
     simp only [Sy] at d0
     clear tn gO HD ew hE
     go_region_with (go_at_call 92;refine HLen.out.mono ?_;rintro e w1 ⟨rfl,hb1⟩;replace hb1:Ss (w.heap.size+2) W0 w1:=Ay.trans (hb1.mono (by have:=Ay.size;rw [dV.out] at this;exact this)))
     all_goals
      go_wp2_with fail
      go_ret
      exact⟨rfl,HB.out _ hb1⟩
def bG {α:Type} (T k:Nat)(enc:α→List Sk)(xs:List α)(w:Sh)(e:Ending)(w':Sh):Prop:=∃ v,e=.returned v∧w'.ownsRow w.heap.size T k v xs.length (xs.flatMap enc)∧Ss w.heap.size w w'
theorem Tryz.info75:(Tryz.prog.info? 75).map (fun i=>(i.zero,i.size,i.bytes))=some (some (.agg #[.slice none 0 0]),1,24):=by kernel_rfl
theorem Row.one:∀ (x:Row)(v:Sk),v∈x.enc→v.oneCell'=true:=by
 intro x v hv
 simp only [Row.enc,Sq,Sp,or_false] at hv
 rcases hv with rfl<;>rfl
theorem ow (ad:Addr)(c:Nat)(w:Sh):Sj Tryz.prog 181 #[.slice (some ad) 0 c] w (bG 75 1 Row.enc [] w):=by
 have HE:=h_ (fun(v:Sk) (w':Sh) (ho:w'.ownsRow w.heap.size 75 1 v (0+([]:List Row).length) ([]++([]:List Row).flatMap Row.enc)) (hb:Ss w.heap.size w w')=>show bG 75 1 Row.enc [] w (.returned v) w' from⟨v,rfl,ho,hb⟩)
 have q22:∀ (w:Sh) (a:Option Addr) (n c n' c':Nat),(binOp .eql 38 (.slice a n c) (.slice none n' c')).run Tryz.prog w=.ok (.bool a.isNone) w:=fun w a n c n' c'=>Sl w _ _ a n c n' c' Tryz.underlying38
 obtain⟨j0,hj,hy0,hy1,hy2⟩:=Si Tryz.info75
 have JI:=h_ hj;have J0:=h_ hy0;have J1:=h_ hy1;have J2:=h_ hy2
 generalize bG 75 1 Row.enc [] w=Q at *
 clear hj hy0 hy1 hy2
 go_enter Tryz.func181,Tryz.ntmps181
 go_wp2_with (at_builtin;refine aI (enc:=Row.enc) (Ok:=Flat) _ rfl (.tmp 5) (.tmp 6) 38 rfl w.heap.size 75 j0 _ 1 24 Tryz.underlying38 JI.out J0.out J1.out J2.out rfl (by decide) (fun _=>rfl) Row.one _ 0 [] rfl (SA w #[] 0 (Sw _) (Sx _) (by simp)) (some ad) c [] rfl (.inl rfl) ?h63 ?hb ?hbase ?_)
 try (case h63=>decide)
 try (case hb=>decide)
 try (case hbase=>simp)
 intro v' w' ho hg _
 have HO:=h_ ho
 have HB:=h_ (show Ss w.heap.size w w' from((St _ _).alloc (Sw _) _).grown hg (by simp) (fun j hj=>by simp [Su] at hj;omega))
 clear ho hg
 go_wp2_with fail
 exact HE.out _ _ HO.out HB.out
theorem jD {Ok:Sh→Row→Prop} (a:Option Addr)(cap:Nat)(xs:List Row)(w:Sh)(h:ah 1 Row.enc Ok w a xs)(hl:xs.length≤4000000):Sj Tryz.prog 181 #[.slice a xs.length cap] w (bG 75 1 Row.enc xs w):=by
 rcases xs with _|⟨x0,xl⟩
 · cases a with
   | none=>exact(Tryz.slices_Clone_nil_f181 0 cap w).mono fun e w' ⟨he,hw⟩=>⟨_,he,Sz _ _ _ _,hw▸St _ _⟩
   | some ad=>exact ow ad cap w
 · obtain⟨b,off,x,rfl,_⟩:=h.at_ (show 0<(x0::xl).length by simp)
   obtain⟨j0,hj,hy0,hy1,hy2⟩:=Si Tryz.info75
   exact(Tryz.slices_Clone_f181 j0 _ 1 24 hj hy0 hy1 hy2 rfl (by decide) (fun w=>by kernel_rfl) b off (x0::xl).length cap ((x0::xl).flatMap Row.enc) w (bE Row.enc 1 (fun _=>rfl) _) (by unfold maxLen;omega) (by omega) (fG (k:=1) (enc:=Row.enc) (Ok:=Ok) (fun _=>rfl) h) (ek (enc:=Row.enc) Row.one _)).mono fun e w' ⟨v,he,ho,_,hb⟩=>⟨v,he,ho,hb⟩
theorem Tryz.info77:(Tryz.prog.info? 77).map (fun i=>(i.zero,i.size,i.bytes))=some (some (.agg #[.string ⟨#[]⟩,.int .u8 0,.bool false,.bool false,.string ⟨#[]⟩]),5,40):=by kernel_rfl
theorem Run.one:∀ (x:Run)(v:Sk),v∈x.enc→v.oneCell'=true:=by
 intro x v hv
 simp only [Run.enc,Sq,Sp,or_false] at hv
 rcases hv with rfl|rfl|rfl|rfl|rfl<;>rfl
theorem ov (ad:Addr)(c:Nat)(w:Sh):Sj Tryz.prog 182 #[.slice (some ad) 0 c] w (bG 77 5 Run.enc [] w):=by
 have HE:=h_ (fun(v:Sk) (w':Sh) (ho:w'.ownsRow w.heap.size 77 5 v (0+([]:List Run).length) ([]++([]:List Run).flatMap Run.enc)) (hb:Ss w.heap.size w w')=>show bG 77 5 Run.enc [] w (.returned v) w' from⟨v,rfl,ho,hb⟩)
 have q22:∀ (w:Sh) (a:Option Addr) (n c n' c':Nat),(binOp .eql 73 (.slice a n c) (.slice none n' c')).run Tryz.prog w=.ok (.bool a.isNone) w:=fun w a n c n' c'=>Sl w _ _ a n c n' c' Tryz.underlying73
 obtain⟨j0,hj,hy0,hy1,hy2⟩:=Si Tryz.info77
 have JI:=h_ hj;have J0:=h_ hy0;have J1:=h_ hy1;have J2:=h_ hy2
 generalize bG 77 5 Run.enc [] w=Q at *
 clear hj hy0 hy1 hy2
 go_enter Tryz.func182,Tryz.ntmps182
 go_wp2_with (at_builtin;refine aI (enc:=Run.enc) (Ok:=Flat) _ rfl (.tmp 5) (.tmp 6) 73 rfl w.heap.size 77 j0 _ 5 40 Tryz.underlying73 JI.out J0.out J1.out J2.out rfl (by decide) (fun _=>rfl) Run.one _ 0 [] rfl (SA w #[] 0 (Sw _) (Sx _) (by simp)) (some ad) c [] rfl (.inl rfl) ?h63 ?hb ?hbase ?_)
 try (case h63=>decide)
 try (case hb=>decide)
 try (case hbase=>simp)
 intro v' w' ho hg _
 have HO:=h_ ho
 have HB:=h_ (show Ss w.heap.size w w' from((St _ _).alloc (Sw _) _).grown hg (by simp) (fun j hj=>by simp [Su] at hj;omega))
 clear ho hg
 go_wp2_with fail
 exact HE.out _ _ HO.out HB.out
theorem jC {Ok:Sh→Run→Prop} (a:Option Addr)(cap:Nat)(xs:List Run)(w:Sh)(h:ah 5 Run.enc Ok w a xs)(hl:xs.length≤4000000):Sj Tryz.prog 182 #[.slice a xs.length cap] w (bG 77 5 Run.enc xs w):=by
 rcases xs with _|⟨x0,xl⟩
 · cases a with
   | none=>exact(Tryz.slices_Clone_nil_f182 0 cap w).mono fun e w' ⟨he,hw⟩=>⟨_,he,Sz _ _ _ _,hw▸St _ _⟩
   | some ad=>exact ov ad cap w
 · obtain⟨b,off,x,rfl,_⟩:=h.at_ (show 0<(x0::xl).length by simp)
   obtain⟨j0,hj,hy0,hy1,hy2⟩:=Si Tryz.info77
   exact(Tryz.slices_Clone_f182 j0 _ 5 40 hj hy0 hy1 hy2 rfl (by decide) (fun w=>by kernel_rfl) b off (x0::xl).length cap ((x0::xl).flatMap Run.enc) w (bE Run.enc 5 (fun _=>rfl) _) (by unfold maxLen;omega) (by omega) (fG (k:=5) (enc:=Run.enc) (Ok:=Ok) (fun _=>rfl) h) (ek (enc:=Run.enc) Run.one _)).mono fun e w' ⟨v,he,ho,_,hb⟩=>⟨v,he,ho,hb⟩
theorem Tryz.info37:(Tryz.prog.info? 37).map (fun i=>(i.zero,i.size,i.bytes))=some (some (.agg #[.string ⟨#[]⟩,.int .i64 0,.int .i64 0,.int .i64 0,.int .i64 0,.int .u8 0,.bool false]),7,56):=by kernel_rfl
theorem Reg.one:∀ (x:Reg)(v:Sk),v∈x.enc→v.oneCell'=true:=by
 intro x v hv
 simp only [Reg.enc,Sq,Sp,or_false] at hv
 rcases hv with rfl|rfl|rfl|rfl|rfl|rfl|rfl<;>rfl
theorem oB (ad:Addr)(c:Nat)(w:Sh):Sj Tryz.prog 68 #[.slice (some ad) 0 c] w (bG 37 7 Reg.enc [] w):=by
 have HE:=h_ (fun(v:Sk) (w':Sh) (ho:w'.ownsRow w.heap.size 37 7 v (0+([]:List Reg).length) ([]++([]:List Reg).flatMap Reg.enc)) (hb:Ss w.heap.size w w')=>show bG 37 7 Reg.enc [] w (.returned v) w' from⟨v,rfl,ho,hb⟩)
 have q22:∀ (w:Sh) (a:Option Addr) (n c n' c':Nat),(binOp .eql 23 (.slice a n c) (.slice none n' c')).run Tryz.prog w=.ok (.bool a.isNone) w:=fun w a n c n' c'=>Sl w _ _ a n c n' c' Tryz.underlying23
 obtain⟨j0,hj,hy0,hy1,hy2⟩:=Si Tryz.info37
 have JI:=h_ hj;have J0:=h_ hy0;have J1:=h_ hy1;have J2:=h_ hy2
 generalize bG 37 7 Reg.enc [] w=Q at *
 clear hj hy0 hy1 hy2
 go_enter Tryz.func68,Tryz.ntmps68
 go_wp2_with (at_builtin;refine aI (enc:=Reg.enc) (Ok:=Flat) _ rfl (.tmp 5) (.tmp 6) 23 rfl w.heap.size 37 j0 _ 7 56 Tryz.underlying23 JI.out J0.out J1.out J2.out rfl (by decide) (fun _=>rfl) Reg.one _ 0 [] rfl (SA w #[] 0 (Sw _) (Sx _) (by simp)) (some ad) c [] rfl (.inl rfl) ?h63 ?hb ?hbase ?_)
 try (case h63=>decide)
 try (case hb=>decide)
 try (case hbase=>simp)
 intro v' w' ho hg _
 have HO:=h_ ho
 have HB:=h_ (show Ss w.heap.size w w' from((St _ _).alloc (Sw _) _).grown hg (by simp) (fun j hj=>by simp [Su] at hj;omega))
 clear ho hg
 go_wp2_with fail
 exact HE.out _ _ HO.out HB.out
theorem oC {Ok:Sh→Reg→Prop} (a:Option Addr)(cap:Nat)(xs:List Reg)(w:Sh)(h:ah 7 Reg.enc Ok w a xs)(hl:xs.length≤4000000):Sj Tryz.prog 68 #[.slice a xs.length cap] w (bG 37 7 Reg.enc xs w):=by
 rcases xs with _|⟨x0,xl⟩
 · cases a with
   | none=>exact(Tryz.slices_Clone_nil_f68 0 cap w).mono fun e w' ⟨he,hw⟩=>⟨_,he,Sz _ _ _ _,hw▸St _ _⟩
   | some ad=>exact oB ad cap w
 · obtain⟨b,off,x,rfl,_⟩:=h.at_ (show 0<(x0::xl).length by simp)
   obtain⟨j0,hj,hy0,hy1,hy2⟩:=Si Tryz.info37
   exact(Tryz.slices_Clone_f68 j0 _ 7 56 hj hy0 hy1 hy2 rfl (by decide) (fun w=>by kernel_rfl) b off (x0::xl).length cap ((x0::xl).flatMap Reg.enc) w (bE Reg.enc 7 (fun _=>rfl) _) (by unfold maxLen;omega) (by omega) (fG (k:=7) (enc:=Reg.enc) (Ok:=Ok) (fun _=>rfl) h) (ek (enc:=Reg.enc) Reg.one _)).mono fun e w' ⟨v,he,ho,_,hb⟩=>⟨v,he,ho,hb⟩
theorem Tryz.info102:(Tryz.prog.info? 102).map (fun i=>(i.zero,i.size,i.bytes))=some (some (.agg #[.int .i64 0,.int .i64 0,.int .i64 0,.int .i64 0,.string ⟨#[]⟩,.string ⟨#[]⟩,.bool false,.bool false]),8,72):=by kernel_rfl
theorem Cm.one:∀ (x:Cm)(v:Sk),v∈x.enc→v.oneCell'=true:=by
 intro x v hv
 simp only [Cm.enc,Sq,Sp,or_false] at hv
 rcases hv with rfl|rfl|rfl|rfl|rfl|rfl|rfl|rfl<;>rfl
theorem oz (ad:Addr)(c:Nat)(w:Sh):Sj Tryz.prog 69 #[.slice (some ad) 0 c] w (bG 102 8 Cm.enc [] w):=by
 have HE:=h_ (fun(v:Sk) (w':Sh) (ho:w'.ownsRow w.heap.size 102 8 v (0+([]:List Cm).length) ([]++([]:List Cm).flatMap Cm.enc)) (hb:Ss w.heap.size w w')=>show bG 102 8 Cm.enc [] w (.returned v) w' from⟨v,rfl,ho,hb⟩)
 have q22:∀ (w:Sh) (a:Option Addr) (n c n' c':Nat),(binOp .eql 25 (.slice a n c) (.slice none n' c')).run Tryz.prog w=.ok (.bool a.isNone) w:=fun w a n c n' c'=>Sl w _ _ a n c n' c' Tryz.underlying25
 obtain⟨j0,hj,hy0,hy1,hy2⟩:=Si Tryz.info102
 have JI:=h_ hj;have J0:=h_ hy0;have J1:=h_ hy1;have J2:=h_ hy2
 generalize bG 102 8 Cm.enc [] w=Q at *
 clear hj hy0 hy1 hy2
 go_enter Tryz.func69,Tryz.ntmps69
 go_wp2_with (at_builtin;refine aI (enc:=Cm.enc) (Ok:=Flat) _ rfl (.tmp 5) (.tmp 6) 25 rfl w.heap.size 102 j0 _ 8 72 Tryz.underlying25 JI.out J0.out J1.out J2.out rfl (by decide) (fun _=>rfl) Cm.one _ 0 [] rfl (SA w #[] 0 (Sw _) (Sx _) (by simp)) (some ad) c [] rfl (.inl rfl) ?h63 ?hb ?hbase ?_)
 try (case h63=>decide)
 try (case hb=>decide)
 try (case hbase=>simp)
 intro v' w' ho hg _
 have HO:=h_ ho
 have HB:=h_ (show Ss w.heap.size w w' from((St _ _).alloc (Sw _) _).grown hg (by simp) (fun j hj=>by simp [Su] at hj;omega))
 clear ho hg
 go_wp2_with fail
 exact HE.out _ _ HO.out HB.out
theorem oA {Ok:Sh→Cm→Prop} (a:Option Addr)(cap:Nat)(xs:List Cm)(w:Sh)(h:ah 8 Cm.enc Ok w a xs)(hl:xs.length≤4000000):Sj Tryz.prog 69 #[.slice a xs.length cap] w (bG 102 8 Cm.enc xs w):=by
 rcases xs with _|⟨x0,xl⟩
 · cases a with
   | none=>exact(Tryz.slices_Clone_nil_f69 0 cap w).mono fun e w' ⟨he,hw⟩=>⟨_,he,Sz _ _ _ _,hw▸St _ _⟩
   | some ad=>exact oz ad cap w
 · obtain⟨b,off,x,rfl,_⟩:=h.at_ (show 0<(x0::xl).length by simp)
   obtain⟨j0,hj,hy0,hy1,hy2⟩:=Si Tryz.info102
   exact(Tryz.slices_Clone_f69 j0 _ 8 72 hj hy0 hy1 hy2 rfl (by decide) (fun w=>by kernel_rfl) b off (x0::xl).length cap ((x0::xl).flatMap Cm.enc) w (bE Cm.enc 8 (fun _=>rfl) _) (by unfold maxLen;omega) (by omega) (fG (k:=8) (enc:=Cm.enc) (Ok:=Ok) (fun _=>rfl) h) (ek (enc:=Cm.enc) Cm.one _)).mono fun e w' ⟨v,he,ho,_,hb⟩=>⟨v,he,ho,hb⟩
theorem Tryz.info72:(Tryz.prog.info? 72).map (fun i=>(i.zero,i.size,i.bytes))=some (some (.agg #[.int .i64 0,.int .i64 0,.int .i64 0,.string ⟨#[]⟩,.int .u8 0,.string ⟨#[]⟩,.slice none 0 0]),7,88):=by kernel_rfl
theorem Ev.one:∀ (x:Ev)(v:Sk),v∈x.enc→v.oneCell'=true:=by
 intro x v hv
 simp only [Ev.enc,Sq,Sp,or_false] at hv
 rcases hv with rfl|rfl|rfl|rfl|rfl|rfl|rfl<;>rfl
theorem ox (ad:Addr)(c:Nat)(w:Sh):Sj Tryz.prog 70 #[.slice (some ad) 0 c] w (bG 72 7 Ev.enc [] w):=by
 have HE:=h_ (fun(v:Sk) (w':Sh) (ho:w'.ownsRow w.heap.size 72 7 v (0+([]:List Ev).length) ([]++([]:List Ev).flatMap Ev.enc)) (hb:Ss w.heap.size w w')=>show bG 72 7 Ev.enc [] w (.returned v) w' from⟨v,rfl,ho,hb⟩)
 have q22:∀ (w:Sh) (a:Option Addr) (n c n' c':Nat),(binOp .eql 24 (.slice a n c) (.slice none n' c')).run Tryz.prog w=.ok (.bool a.isNone) w:=fun w a n c n' c'=>Sl w _ _ a n c n' c' Tryz.underlying24
 obtain⟨j0,hj,hy0,hy1,hy2⟩:=Si Tryz.info72
 have JI:=h_ hj;have J0:=h_ hy0;have J1:=h_ hy1;have J2:=h_ hy2
 generalize bG 72 7 Ev.enc [] w=Q at *
 clear hj hy0 hy1 hy2
 go_enter Tryz.func70,Tryz.ntmps70
 go_wp2_with (at_builtin;refine aI (enc:=Ev.enc) (Ok:=Flat) _ rfl (.tmp 5) (.tmp 6) 24 rfl w.heap.size 72 j0 _ 7 88 Tryz.underlying24 JI.out J0.out J1.out J2.out rfl (by decide) (fun _=>rfl) Ev.one _ 0 [] rfl (SA w #[] 0 (Sw _) (Sx _) (by simp)) (some ad) c [] rfl (.inl rfl) ?h63 ?hb ?hbase ?_)
 try (case h63=>decide)
 try (case hb=>decide)
 try (case hbase=>simp)
 intro v' w' ho hg _
 have HO:=h_ ho
 have HB:=h_ (show Ss w.heap.size w w' from((St _ _).alloc (Sw _) _).grown hg (by simp) (fun j hj=>by simp [Su] at hj;omega))
 clear ho hg
 go_wp2_with fail
 exact HE.out _ _ HO.out HB.out
theorem oy {Ok:Sh→Ev→Prop} (a:Option Addr)(cap:Nat)(xs:List Ev)(w:Sh)(h:ah 7 Ev.enc Ok w a xs)(hl:xs.length≤4000000):Sj Tryz.prog 70 #[.slice a xs.length cap] w (bG 72 7 Ev.enc xs w):=by
 rcases xs with _|⟨x0,xl⟩
 · cases a with
   | none=>exact(Tryz.slices_Clone_nil_f70 0 cap w).mono fun e w' ⟨he,hw⟩=>⟨_,he,Sz _ _ _ _,hw▸St _ _⟩
   | some ad=>exact ox ad cap w
 · obtain⟨b,off,x,rfl,_⟩:=h.at_ (show 0<(x0::xl).length by simp)
   obtain⟨j0,hj,hy0,hy1,hy2⟩:=Si Tryz.info72
   exact(Tryz.slices_Clone_f70 j0 _ 7 88 hj hy0 hy1 hy2 rfl (by decide) (fun w=>by kernel_rfl) b off (x0::xl).length cap ((x0::xl).flatMap Ev.enc) w (bE Ev.enc 7 (fun _=>rfl) _) (by unfold maxLen;omega) (by omega) (fG (k:=7) (enc:=Ev.enc) (Ok:=Ok) (fun _=>rfl) h) (ek (enc:=Ev.enc) Ev.one _)).mono fun e w' ⟨v,he,ho,_,hb⟩=>⟨v,he,ho,hb⟩
def bX {α:Type} (p:α→Bool):List α→Nat→Int
 | [],_=>-1
 | x::l,i=>if p x=true then (i:Int) else bX p l (i+1)
def posOf {α:Type} (p:α→Bool)(xs:List α):Int:=bX p xs 0
theorem mE {α:Type} [Inhabited α] (p:α→Bool)(xs:List α):Lib.idxBy (fun _ y=>p y) xs default=posOf p xs:=by
 unfold Lib.idxBy posOf
 generalize 0=i
 induction xs generalizing i with
 | nil=>rfl
 | cons x l ih=>simp only [Lib.idxByFrom,bX,ih]
theorem oU {α:Type} (p:α→Bool):∀ (xs:List α)(i:Nat),bX p xs i=-1∨((i:Int)≤bX p xs i∧bX p xs i<(i:Int)+xs.length)
 | [],i=>.inl rfl
 | x::l,i=>by
   unfold bX
   split
   · right;simp;omega
   · rcases oU p l (i+1) with h|h
     · exact .inl h
     · right;simp only [List.length_cons];omega
theorem BS {α:Type} (p:α→Bool)(xs:List α):posOf p xs=-1∨(0≤posOf p xs∧posOf p xs<xs.length):=by
 rcases oU p xs 0 with h|h
 · exact .inl h
 · exact .inr ⟨by unfold posOf;omega,by unfold posOf;omega⟩
theorem qp (x:Ev)(g:Nat)(id:Int)(w:Sh)(hg:w.cell? ⟨g,0,none⟩=some (.int .i64 id))(hl:g<w.heap.size) :
 Sj Tryz.prog 128 #[.agg x.enc.toArray,.pointer (some ⟨g,0,none⟩)] w fun e w'=>e=.returned (.bool (x.id==id))∧Ss w.heap.size w w':=by
 obtain⟨id',inn,out,region,kind,speaker,a,cap,xs⟩:=x
 simp only [Ev.enc]
 have hg2:∀ o,(w.alloc o).cell? ⟨g,0,none⟩=some (.int .i64 id):=fun o=>(Sh.cell?_alloc_lt _ _ _ (by simpa using hl)).trans hg
 go_enter Tryz.func128,Tryz.ntmps128
 go_wp2_with fail
 go_ret
 exact⟨rfl,(St _ _).alloc (Sw _) _⟩
theorem xx (a:Option Addr)(cap:Nat)(v:Sk)(w:Sh):Sj Tryz.prog 127 #[.slice a 0 cap,v] w fun e w'=>e=.returned (.int .i64 (-1))∧w=w':=by
 go_enter Tryz.func127,Tryz.ntmps127
 go_wp2_with fail
 refine wp_loop_rounds 1 ?_
 rw [rounds_succ]
 go_wp2_with fail
 go_ret
 exact⟨rfl,rfl⟩
instance:Inhabited Ev:=⟨⟨0,0,0,⟨#[]⟩,0,⟨#[]⟩,none,0,[]⟩⟩
def iB (id:Int)(x:Ev):Bool:=x.id==id
theorem uy (a:Option Addr)(cap:Nat)(xs:List Ev)(g:Nat)(id:Int)(w:Sh)(hr:dG w a xs)(hl:xs.length≤4000000)(hg:w.cell? ⟨g,0,none⟩=some (.int .i64 id))(hgl:g<w.heap.size) :
 Sj Tryz.prog 127 #[.slice a xs.length cap,.func (.func 128) #[] #[.pointer (some ⟨g,0,none⟩)]] w fun e w'=>e=.returned (.int .i64 (posOf (iB id) xs))∧Ss w.heap.size w w':=by
 rcases hr with rfl|⟨b,off,rfl,hb,hc⟩
 · exact(xx a cap _ w).mono fun e w' ⟨he,hw⟩=>⟨he,hw▸St _ _⟩
 · have h:=Tryz.slices_IndexFunc_f127 7 (fun w=>by kernel_rfl) (fun w=>by kernel_rfl) Ev.enc (fun _=>rfl) (iB id) 128 #[.pointer (some ⟨g,0,none⟩)] (fun args w=>by kernel_rfl) b off xs.length cap xs w
    (fun W x hW=>(qp x g id W ((hW.cell (p:=⟨g,0,none⟩) hgl).trans hg) (Nat.lt_of_lt_of_le hgl hW.size)).mono fun e w' ⟨he,hw⟩=>⟨he,hW.trans (hw.mono hW.size)⟩)
    (Sw _) (by omega) hb (fun j hj i v hv=>(hc j _ (jN xs j hj)).1 i v hv)
   rw [List.take_length,mE] at h
   exact h
theorem cU (d:Doc)(id:Int)(w:Sh)(hr:dG w d.ea d.eV)(hl:d.eV.length≤4000000) :
 Sj Tryz.prog 82 #[.agg d.enc.toArray,.int .i64 id] w fun e w'=>e=.returned (.int .i64 (posOf (iB id) d.eV))∧Ss w.heap.size w w':=by
 have hb2:=fun o=>((St w.heap.size w).alloc (Sw _) o)
 have HC:=h_ (uy d.ea d.ec d.eV (w.heap.size+1) id ((w.alloc (.cells d.enc.toArray 27)).alloc (.cells #[.int .i64 id] 2)) (hr.later (((St _ _).alloc (Sw _) _).alloc (by simp) _)) hl (cW w d.enc.toArray #[.int .i64 id] 27 2 0 _ rfl _ (St _ _)) (by simp))
 obtain⟨title,lA,rate,drop,last,ra,rc,rG,ea,ec,eV,ca,cc,cM⟩:=d
 simp only [Doc.enc] at HC ⊢
 clear hb2
 go_enter Tryz.func82,Tryz.ntmps82
 go_wp2_with fail
 refine HC.out.mono ?_
 rintro e w1 ⟨rfl,hb⟩
 have hb':=fH (hb.mono (by simp))
 go_wp2_with fail
 go_ret
 exact⟨rfl,hb'⟩
def sI {α:Type} (p:α→Bool):List α→Nat→Option (α × Nat)
 | [],_=>none
 | x::l,i=>if p x=true then some (x,i) else sI p l (i+1)
def first {α:Type} (p:α→Bool)(xs:List α):Option (α × Nat):=sI p xs 0
def oI:Ev:=⟨0,0,0,⟨#[]⟩,0,⟨#[]⟩,none,0,[]⟩
theorem Ints.cells {w:Sh} {b off:Nat} {zs:List Int} (h:Ints w (some ⟨b,off,none⟩) zs):∀ (j:Nat)(u:Sk),(zs.map (Sv .i64))[j]? =some u→w.cell? ⟨b,off+j,none⟩=some u:=by
 intro j u hu
 rw [List.getElem?_map] at hu
 obtain⟨z,hz,rfl⟩:=Option.map_eq_some_iff.1 hu
 rcases h with rfl|⟨b',off',he,_,hcc⟩
 · simp at hz
 · simp only [Option.some.injEq,Addr.mk.injEq,and_true] at he
   obtain⟨rfl,rfl⟩:=he
   have:=(hcc j z hz).1 0 _ rfl
   rw [show off+j*1+0=off+j by omega] at this
   exact this
end Go.Proofs.YtjebaagkomejaaaGreatDoor
namespace Go.Proofs
open Go.Shelf
def Tryz.grow227_ren:Go.Shelf.Ren:=⟨fun|4=>227|n=>n,fun|22=>73|25=>77|3=>3|4=>4|9=>9|20=>20|0=>0|n=>n,fun|n=>n⟩
theorem Tryz.grow227:Go.Proofs.Lays8.n4 Tryz.prog Tryz.grow227_ren:={
 mixed:=by kernel_rfl
 f4:=⟨Tryz.f227.name,by decide,Tryz.func227.trans (congrArg some (by kernel_rfl))⟩
 t0:=Tryz.underlying0
 a0:=Tryz.isAgg0
 z0:=Tryz.sizeOf0
 v0:=Tryz.zeroValue0
 t3:=Tryz.underlying3
 a3:=Tryz.isAgg3
 z3:=Tryz.sizeOf3
 v3:=Tryz.zeroValue3
 t4:=Tryz.underlying4
 a4:=Tryz.isAgg4
 z4:=Tryz.sizeOf4
 v4:=Tryz.zeroValue4
 t9:=Tryz.underlying9
 a9:=Tryz.isAgg9
 z9:=Tryz.sizeOf9
 v9:=Tryz.zeroValue9
 t20:=Tryz.underlying20
 a20:=Tryz.isAgg20
 z20:=Tryz.sizeOf20
 v20:=Tryz.zeroValue20
 t22:=Tryz.underlying73
 a22:=Tryz.isAgg73
 z22:=Tryz.sizeOf73
 v22:=Tryz.zeroValue73 }
end Go.Proofs
namespace Go.Proofs.YtjebaagkomejaaaGreatDoor
open Go.RowKit
theorem xN (n:Nat)(w:Sh)(hn:n≤80000000):Sj Tryz.prog 227 #[.slice none 0 0,.int .i64 n] w (bG (α:=Run) 77 5 Run.enc [] w):=by
 rcases Nat.eq_zero_or_pos n with rfl|h0
 · exact(Any8.slices_Grow_room Tryz.grow227 none 0 0 0 w (Sw _) (by omega) (by omega) (by omega)).mono fun e w' ⟨he,hw⟩=>⟨_,he,Sz _ _ _ _,hw▸St _ _⟩
 · obtain⟨j0,hj,hy0,hy1,hy2⟩:=Si Tryz.info77
   have h:=Any8.slices_Grow_grow Tryz.grow227 j0 _ hj hy0 (by rw [hy1];decide) none 0 0 n [] w (Sw _) (by omega) (by rw [hy2];omega) (by omega) (by simp) (fun _=>rfl) (fun a ha=>by cases ha)
   refine h.mono fun e w' ⟨he,hw⟩=>⟨_,he,?_,?_⟩
   · subst hw
     have hG:=grownCap_ge w (0+n) 0 (Tryz.grow227_ren.t 25)
     have hM:=grownCap_le_maxLen w (0+n) 0 (Tryz.grow227_ren.t 25) (by unfold maxLen;omega)
     refine⟨rfl,.inr ⟨_,_,_,rfl,Sw _,heap_alloc_new w.drew _,Sx _,hM,?_,by simp⟩⟩
     simp only [Nat.zero_add] at hG hM ⊢
     generalize grownCap w n 0 (Tryz.grow227_ren.t 25)=G at *
     simp only [Array.size_append,List.size_toArray,size_zeroCells,Sk.cells,List.length_nil]
     simp
     omega
   · subst hw
     exact((St _ _).drew).alloc (Sw _) _
end Go.Proofs.YtjebaagkomejaaaGreatDoor
