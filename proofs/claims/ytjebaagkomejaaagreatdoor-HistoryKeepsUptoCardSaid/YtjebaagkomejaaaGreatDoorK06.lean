/- Documents in memory, and the contract of document.anchored: the first error of the numbers of a comment. Copies: slices.Clone at rows, runs, regions, comments and events. The contracts of document.Head and of event.Same. -/
import Derived.Test.YtjebaagkomejaaaGreatDoorK04
set_option linter.unusedVariables false
set_option linter.unusedSimpArgs false
set_option maxRecDepth 100000
set_option maxHeartbeats 12800000
open Go.Lib renaming hid→h_
open Go renaming World→Sj,info_parts→Sk,Calls→Sl,Value→Sm,below_drewN→Sn
open Go.RowKit renaming Below→Sp
open Go.Value renaming string→Sq,ownBlock→Sr
open Go.RowKit.Below renaming refl→Ss
open Nat renaming le_refl→St,zero_le→Su,add_zero→Sv
open List renaming not_mem_nil→Sw,mem_cons→Sx
open Go.Lib renaming run_eql_slice_nil→Sy
open Go.World renaming ownsRow_made→Sz,ownsRow_nil→SA
open Bool renaming eq_false_or_eq_true→SB
namespace Go.Proofs.YtjebaagkomejaaaGreatDoor
open Go.RowKit
theorem oN (d:Doc)(c:Cm)(b n:Nat)(f:Int→Option Nat)(w:Sj)(hE:Env w)(hd:dy w d.ea d.eV)(eo:∀ x∈d.eV,x.fits)(hle:d.eV.length≤4000000)(hc:c.fits)(hM:IMap w b n f)(hf:∀ z i,f z=some i→i<d.eV.length) :
 Sl Tryz.prog 120 #[.agg d.enc.toArray,.agg c.enc.toArray,.map (some b)] w fun e w'=>e=.returned (.int .i64 (cw d.last f d.eV c))∧Sp w.heap.size w w':=by
 have hcs:=yK d.last f d.eV c hf
 generalize cw d.last f d.eV c=G at *
 obtain⟨title,lA,rate,drop,last,ra,rc,rG,ea,ec,eV,ca,cc,cM⟩:=d
 obtain⟨_,hi2,hi3,hi4,_,_⟩:=hc
 obtain⟨id,ev,frm,til,author,text,done,lost⟩:=c
 simp only at hcs hi2 hi3 hi4 hd eo hf hle
 simp only [Doc.enc,Cm.enc]
 generalize hds:#[Sq title,.string lA,.int .u8 rate,.bool drop,.int .i64 last,.slice ra rG.length rc,.slice ea eV.length ec,.slice ca cM.length cc]=ds
 generalize lV:#[Sm.int .i64 id,.int .i64 ev,.int .i64 frm,.int .i64 til,.string author,.string text,.bool done,.bool lost]=qs
 have f4:=bO w ds qs 27 102 4 (.int .i64 last) (by rw [←hds];rfl)
 have f6:=bO w ds qs 27 102 6 (.slice ea eV.length ec) (by rw [←hds];rfl)
 have g1:=bB w ds qs 27 102 1 (.int .i64 ev) (by rw [←lV];rfl)
 have g2:=bB w ds qs 27 102 2 (.int .i64 frm) (by rw [←lV];rfl)
 have g3:=bB w ds qs 27 102 3 (.int .i64 til) (by rw [←lV];rfl)
 have g7:=bB w ds qs 27 102 7 (.bool lost) (by rw [←lV];rfl)
 have HB:=h_ (fun(w1:Sj) (h:Sp (w.heap.size+2) ((w.alloc (.cells ds 27)).alloc (.cells qs 102)) w1)=>dU h)
 have hb0:Sp (w.heap.size+2) ((w.alloc (.cells ds 27)).alloc (.cells qs 102)) ((w.alloc (.cells ds 27)).alloc (.cells qs 102)):=Ss _ _
 have hsz:((w.alloc (.cells ds 27)).alloc (.cells qs 102)).heap.size=w.heap.size+2:=by simp
 have gG:=h_ ((hM.below (HB.out _ hb0) hM.lt).look hi2)
 generalize hW0:(w.alloc (.cells ds 27)).alloc (.cells qs 102)=W0 at *
 have HW0:=h_ hW0
 have dI:=h_ hsz
 have HD:=h_ hd
 have eP:=h_ eo
 clear hW0 hsz hd eo hf hM
 have hlk:=gG.out
 rw [←HW0.out] at hlk
 clear gG
 go_enter Tryz.func120,Tryz.ntmps120
 subst hds
 subst lV
 rcases hcs with⟨rfl,h1⟩|⟨rfl,h1,h2⟩|⟨h1,h2,⟨rfl,⟨rfl,h3⟩|⟨rfl,rfl,h3⟩|⟨rfl,rfl,rfl⟩⟩|⟨rfl,⟨hq,rfl⟩|⟨i,x,hq,hi,hx,hcs⟩⟩⟩
 · clear hlk
   go_wp2_with fail
   rw [HW0.out]
   go_ret
   exact⟨rfl,HB.out _ hb0⟩
 · clear hlk
   go_wp2_with fail
   rw [HW0.out]
   go_ret
   exact⟨rfl,HB.out _ hb0⟩
 · have vl:(frm != 0)=true:=by simpa using h3
   clear hlk h3
   go_wp2_with fail
   rw [HW0.out]
   go_ret
   exact⟨rfl,HB.out _ hb0⟩
 · have vl:(til != 0)=true:=by simpa using h3
   clear hlk h3
   go_wp2_with fail
   rw [HW0.out]
   go_ret
   exact⟨rfl,HB.out _ hb0⟩
 · clear hlk
   go_wp2_with fail
   rw [HW0.out]
   go_ret
   exact⟨rfl,HB.out _ hb0⟩
 · rw [hq] at hlk
   simp only [Option.isSome_none,Option.getD_none] at hlk
   have gG:=h_ hlk
   clear hq hlk
   go_wp2_with (at_lookup;refine ay _ rfl _ _ _ _ rfl _ _ _ rfl rfl gG.out ?_)
   rw [HW0.out]
   go_ret
   exact⟨rfl,HB.out _ hb0⟩
 · rw [hq] at hlk
   simp only [Option.isSome_some,Option.getD_some] at hlk
   have gG:=h_ hlk
   clear hlk
   obtain⟨bb,off,x',rfl,hbl,hx',hcx,hok0⟩:=HD.out.at_ hi
   have hok:=Ev.keeps _ _ _ (HB.out _ hb0) hok0
   obtain rfl:x'=x:=Option.some.inj (hx'.symm.trans hx)
   have hfx:=eP.out x' (List.mem_of_getElem? hx)
   have sX:Sp (w.heap.size+2) W0 W0.drew:=hb0.drew
   have HLen:=h_ (nu x' W0.drew (hE.below (HB.out _ sX) (St _)) (Ev.keeps _ _ _ ((Ss W0.heap.size W0).drew) hok) hfx)
   have hcd:∀ j v,x'.enc[j]? =some v→∀ w1,Sp (w.heap.size+2) W0 w1→w1.cell? ⟨bb,off+i*7+j,none⟩=some v:=fun j v hv w1 h=>by
    rw [(HB.out _ h).cell (p:=⟨bb,off+i*7+j,none⟩) hbl]
    exact hcx j v hv
   clear hq hx hx' hcx hok hok0 hfx
   obtain⟨xid,xin,xout,xreg,xkind,xsp,xa,xc,xrows⟩:=x'
   have tO:=h_ hcd
   simp only [Ev.enc] at HLen hcs tO
   generalize gC xrows=L at *
   clear hcd
   rcases hcs with⟨rfl,h3⟩|⟨rfl,h3,h4⟩|⟨h3,h4,⟨rfl,h5⟩|⟨rfl,h5⟩⟩
   · have vl:decide (frm<0)=true:=by simp;omega
     clear HLen hbl
     go_wp2_with (at_lookup;refine ay _ rfl _ _ _ _ rfl _ _ _ rfl rfl gG.out ?_)
     rw [HW0.out]
     go_quiet (fail)
     go_wp2_with fail
     go_ret
     exact⟨rfl,HB.out _ (Sn hb0 _)⟩
   · have vl:decide (frm<0)=false:=by simp;omega
     have Mu:decide (til≤frm)=true:=by simp;omega
     clear HLen hbl
     go_wp2_with (at_lookup;refine ay _ rfl _ _ _ _ rfl _ _ _ rfl rfl gG.out ?_)
     rw [HW0.out]
     go_quiet (fail)
     go_wp2_with fail
     go_ret
     exact⟨rfl,HB.out _ (Sn hb0 _)⟩
   · have vl:decide (frm<0)=false:=by simp;omega
     have Mu:decide (til≤frm)=false:=by simp;omega
     have OF:decide (L<til)=true:=by simp;omega
     go_wp2_with (at_lookup;refine ay _ rfl _ _ _ _ rfl _ _ _ rfl rfl gG.out ?_)
     rw [HW0.out]
     have d0:=tO.out 0 _ rfl;have d1:=tO.out 1 _ rfl;have d2:=tO.out 2 _ rfl;have d3:=tO.out 3 _ rfl;have d4:=tO.out 4 _ rfl;have d5:=tO.out 5 _ rfl;have d6:=tO.out 6 _ rfl
     simp only [Sv] at d0
     clear tO gG HD eP hE
     go_region_with (go_at_call 92;refine HLen.out.mono ?_;rintro e w1 ⟨rfl,hb1⟩;replace hb1:Sp (w.heap.size+2) W0 w1:=sX.trans (hb1.mono (by have:=sX.size;rw [dI.out] at this;exact this)))
     all_goals
      go_wp2_with fail
      go_ret
      exact⟨rfl,HB.out _ hb1⟩
   · have vl:decide (frm<0)=false:=by simp;omega
     have Mu:decide (til≤frm)=false:=by simp;omega
     have OF:decide (L<til)=false:=by simp;omega
     go_wp2_with (at_lookup;refine ay _ rfl _ _ _ _ rfl _ _ _ rfl rfl gG.out ?_)
     rw [HW0.out]
     have d0:=tO.out 0 _ rfl;have d1:=tO.out 1 _ rfl;have d2:=tO.out 2 _ rfl;have d3:=tO.out 3 _ rfl;have d4:=tO.out 4 _ rfl;have d5:=tO.out 5 _ rfl;have d6:=tO.out 6 _ rfl
     simp only [Sv] at d0
     clear tO gG HD eP hE
     go_region_with (go_at_call 92;refine HLen.out.mono ?_;rintro e w1 ⟨rfl,hb1⟩;replace hb1:Sp (w.heap.size+2) W0 w1:=sX.trans (hb1.mono (by have:=sX.size;rw [dI.out] at this;exact this)))
     all_goals
      go_wp2_with fail
      go_ret
      exact⟨rfl,HB.out _ hb1⟩
def bF {α:Type} (T k:Nat)(enc:α→List Sm)(xs:List α)(w:Sj)(e:Ending)(w':Sj):Prop:=∃ v,e=.returned v∧w'.ownsRow w.heap.size T k v xs.length (xs.flatMap enc)∧Sp w.heap.size w w'
theorem Tryz.info75:(Tryz.prog.info? 75).map (fun i=>(i.zero,i.size,i.bytes))=some (some (.agg #[.slice none 0 0]),1,24):=by kernel_rfl
theorem Row.one:∀ (x:Row)(v:Sm),v∈x.enc→v.oneCell'=true:=by
 intro x v hv
 simp only [Row.enc,Sx,Sw,or_false] at hv
 rcases hv with rfl<;>rfl
theorem oE (ad:Addr)(c:Nat)(w:Sj):Sl Tryz.prog 181 #[.slice (some ad) 0 c] w (bF 75 1 Row.enc [] w):=by
 have HE:=h_ (fun(v:Sm) (w':Sj) (ho:w'.ownsRow w.heap.size 75 1 v (0+([]:List Row).length) ([]++([]:List Row).flatMap Row.enc)) (hb:Sp w.heap.size w w')=>show bF 75 1 Row.enc [] w (.returned v) w' from⟨v,rfl,ho,hb⟩)
 have q22:∀ (w:Sj) (a:Option Addr) (n c n' c':Nat),(binOp .eql 38 (.slice a n c) (.slice none n' c')).run Tryz.prog w=.ok (.bool a.isNone) w:=fun w a n c n' c'=>Sy w _ _ a n c n' c' Tryz.underlying38
 obtain⟨j0,hj,hy0,hy1,hy2⟩:=Sk Tryz.info75
 have JI:=h_ hj;have J0:=h_ hy0;have J1:=h_ hy1;have J2:=h_ hy2
 generalize bF 75 1 Row.enc [] w=Q at *
 clear hj hy0 hy1 hy2
 go_enter Tryz.func181,Tryz.ntmps181
 go_wp2_with (at_builtin;refine aJ (enc:=Row.enc) (Ok:=Flat) _ rfl (.tmp 5) (.tmp 6) 38 rfl w.heap.size 75 j0 _ 1 24 Tryz.underlying38 JI.out J0.out J1.out J2.out rfl (by decide) (fun _=>rfl) Row.one _ 0 [] rfl (Sz w #[] 0 (St _) (Su _) (by simp)) (some ad) c [] rfl (.inl rfl) ?h63 ?hb ?hbase ?_)
 try (case h63=>decide)
 try (case hb=>decide)
 try (case hbase=>simp)
 intro v' w' ho hg _
 have HO:=h_ ho
 have HB:=h_ (show Sp w.heap.size w w' from((Ss _ _).alloc (St _) _).grown hg (by simp) (fun j hj=>by simp [Sr] at hj;omega))
 clear ho hg
 go_wp2_with fail
 exact HE.out _ _ HO.out HB.out
theorem jE {Ok:Sj→Row→Prop} (a:Option Addr)(cap:Nat)(xs:List Row)(w:Sj)(h:ah 1 Row.enc Ok w a xs)(hl:xs.length≤4000000):Sl Tryz.prog 181 #[.slice a xs.length cap] w (bF 75 1 Row.enc xs w):=by
 rcases xs with _|⟨x0,xl⟩
 · cases a with
   | none=>exact(Tryz.slices_Clone_nil_f181 0 cap w).mono fun e w' ⟨he,hw⟩=>⟨_,he,SA _ _ _ _,hw▸Ss _ _⟩
   | some ad=>exact oE ad cap w
 · obtain⟨b,off,x,rfl,_⟩:=h.at_ (show 0<(x0::xl).length by simp)
   obtain⟨j0,hj,hy0,hy1,hy2⟩:=Sk Tryz.info75
   exact(Tryz.slices_Clone_f181 j0 _ 1 24 hj hy0 hy1 hy2 rfl (by decide) (fun w=>by kernel_rfl) b off (x0::xl).length cap ((x0::xl).flatMap Row.enc) w (bz Row.enc 1 (fun _=>rfl) _) (by unfold maxLen;omega) (by omega) (fD (k:=1) (enc:=Row.enc) (Ok:=Ok) (fun _=>rfl) h) (ei (enc:=Row.enc) Row.one _)).mono fun e w' ⟨v,he,ho,_,hb⟩=>⟨v,he,ho,hb⟩
theorem Tryz.info77:(Tryz.prog.info? 77).map (fun i=>(i.zero,i.size,i.bytes))=some (some (.agg #[.string ⟨#[]⟩,.int .u8 0,.bool false,.bool false,.string ⟨#[]⟩]),5,40):=by kernel_rfl
theorem Run.one:∀ (x:Run)(v:Sm),v∈x.enc→v.oneCell'=true:=by
 intro x v hv
 simp only [Run.enc,Sx,Sw,or_false] at hv
 rcases hv with rfl|rfl|rfl|rfl|rfl<;>rfl
theorem oD (ad:Addr)(c:Nat)(w:Sj):Sl Tryz.prog 182 #[.slice (some ad) 0 c] w (bF 77 5 Run.enc [] w):=by
 have HE:=h_ (fun(v:Sm) (w':Sj) (ho:w'.ownsRow w.heap.size 77 5 v (0+([]:List Run).length) ([]++([]:List Run).flatMap Run.enc)) (hb:Sp w.heap.size w w')=>show bF 77 5 Run.enc [] w (.returned v) w' from⟨v,rfl,ho,hb⟩)
 have q22:∀ (w:Sj) (a:Option Addr) (n c n' c':Nat),(binOp .eql 73 (.slice a n c) (.slice none n' c')).run Tryz.prog w=.ok (.bool a.isNone) w:=fun w a n c n' c'=>Sy w _ _ a n c n' c' Tryz.underlying73
 obtain⟨j0,hj,hy0,hy1,hy2⟩:=Sk Tryz.info77
 have JI:=h_ hj;have J0:=h_ hy0;have J1:=h_ hy1;have J2:=h_ hy2
 generalize bF 77 5 Run.enc [] w=Q at *
 clear hj hy0 hy1 hy2
 go_enter Tryz.func182,Tryz.ntmps182
 go_wp2_with (at_builtin;refine aJ (enc:=Run.enc) (Ok:=Flat) _ rfl (.tmp 5) (.tmp 6) 73 rfl w.heap.size 77 j0 _ 5 40 Tryz.underlying73 JI.out J0.out J1.out J2.out rfl (by decide) (fun _=>rfl) Run.one _ 0 [] rfl (Sz w #[] 0 (St _) (Su _) (by simp)) (some ad) c [] rfl (.inl rfl) ?h63 ?hb ?hbase ?_)
 try (case h63=>decide)
 try (case hb=>decide)
 try (case hbase=>simp)
 intro v' w' ho hg _
 have HO:=h_ ho
 have HB:=h_ (show Sp w.heap.size w w' from((Ss _ _).alloc (St _) _).grown hg (by simp) (fun j hj=>by simp [Sr] at hj;omega))
 clear ho hg
 go_wp2_with fail
 exact HE.out _ _ HO.out HB.out
theorem jD {Ok:Sj→Run→Prop} (a:Option Addr)(cap:Nat)(xs:List Run)(w:Sj)(h:ah 5 Run.enc Ok w a xs)(hl:xs.length≤4000000):Sl Tryz.prog 182 #[.slice a xs.length cap] w (bF 77 5 Run.enc xs w):=by
 rcases xs with _|⟨x0,xl⟩
 · cases a with
   | none=>exact(Tryz.slices_Clone_nil_f182 0 cap w).mono fun e w' ⟨he,hw⟩=>⟨_,he,SA _ _ _ _,hw▸Ss _ _⟩
   | some ad=>exact oD ad cap w
 · obtain⟨b,off,x,rfl,_⟩:=h.at_ (show 0<(x0::xl).length by simp)
   obtain⟨j0,hj,hy0,hy1,hy2⟩:=Sk Tryz.info77
   exact(Tryz.slices_Clone_f182 j0 _ 5 40 hj hy0 hy1 hy2 rfl (by decide) (fun w=>by kernel_rfl) b off (x0::xl).length cap ((x0::xl).flatMap Run.enc) w (bz Run.enc 5 (fun _=>rfl) _) (by unfold maxLen;omega) (by omega) (fD (k:=5) (enc:=Run.enc) (Ok:=Ok) (fun _=>rfl) h) (ei (enc:=Run.enc) Run.one _)).mono fun e w' ⟨v,he,ho,_,hb⟩=>⟨v,he,ho,hb⟩
theorem Tryz.info37:(Tryz.prog.info? 37).map (fun i=>(i.zero,i.size,i.bytes))=some (some (.agg #[.string ⟨#[]⟩,.int .i64 0,.int .i64 0,.int .i64 0,.int .i64 0,.int .u8 0,.bool false]),7,56):=by kernel_rfl
theorem Reg.one:∀ (x:Reg)(v:Sm),v∈x.enc→v.oneCell'=true:=by
 intro x v hv
 simp only [Reg.enc,Sx,Sw,or_false] at hv
 rcases hv with rfl|rfl|rfl|rfl|rfl|rfl|rfl<;>rfl
theorem oJ (ad:Addr)(c:Nat)(w:Sj):Sl Tryz.prog 68 #[.slice (some ad) 0 c] w (bF 37 7 Reg.enc [] w):=by
 have HE:=h_ (fun(v:Sm) (w':Sj) (ho:w'.ownsRow w.heap.size 37 7 v (0+([]:List Reg).length) ([]++([]:List Reg).flatMap Reg.enc)) (hb:Sp w.heap.size w w')=>show bF 37 7 Reg.enc [] w (.returned v) w' from⟨v,rfl,ho,hb⟩)
 have q22:∀ (w:Sj) (a:Option Addr) (n c n' c':Nat),(binOp .eql 23 (.slice a n c) (.slice none n' c')).run Tryz.prog w=.ok (.bool a.isNone) w:=fun w a n c n' c'=>Sy w _ _ a n c n' c' Tryz.underlying23
 obtain⟨j0,hj,hy0,hy1,hy2⟩:=Sk Tryz.info37
 have JI:=h_ hj;have J0:=h_ hy0;have J1:=h_ hy1;have J2:=h_ hy2
 generalize bF 37 7 Reg.enc [] w=Q at *
 clear hj hy0 hy1 hy2
 go_enter Tryz.func68,Tryz.ntmps68
 go_wp2_with (at_builtin;refine aJ (enc:=Reg.enc) (Ok:=Flat) _ rfl (.tmp 5) (.tmp 6) 23 rfl w.heap.size 37 j0 _ 7 56 Tryz.underlying23 JI.out J0.out J1.out J2.out rfl (by decide) (fun _=>rfl) Reg.one _ 0 [] rfl (Sz w #[] 0 (St _) (Su _) (by simp)) (some ad) c [] rfl (.inl rfl) ?h63 ?hb ?hbase ?_)
 try (case h63=>decide)
 try (case hb=>decide)
 try (case hbase=>simp)
 intro v' w' ho hg _
 have HO:=h_ ho
 have HB:=h_ (show Sp w.heap.size w w' from((Ss _ _).alloc (St _) _).grown hg (by simp) (fun j hj=>by simp [Sr] at hj;omega))
 clear ho hg
 go_wp2_with fail
 exact HE.out _ _ HO.out HB.out
theorem oK {Ok:Sj→Reg→Prop} (a:Option Addr)(cap:Nat)(xs:List Reg)(w:Sj)(h:ah 7 Reg.enc Ok w a xs)(hl:xs.length≤4000000):Sl Tryz.prog 68 #[.slice a xs.length cap] w (bF 37 7 Reg.enc xs w):=by
 rcases xs with _|⟨x0,xl⟩
 · cases a with
   | none=>exact(Tryz.slices_Clone_nil_f68 0 cap w).mono fun e w' ⟨he,hw⟩=>⟨_,he,SA _ _ _ _,hw▸Ss _ _⟩
   | some ad=>exact oJ ad cap w
 · obtain⟨b,off,x,rfl,_⟩:=h.at_ (show 0<(x0::xl).length by simp)
   obtain⟨j0,hj,hy0,hy1,hy2⟩:=Sk Tryz.info37
   exact(Tryz.slices_Clone_f68 j0 _ 7 56 hj hy0 hy1 hy2 rfl (by decide) (fun w=>by kernel_rfl) b off (x0::xl).length cap ((x0::xl).flatMap Reg.enc) w (bz Reg.enc 7 (fun _=>rfl) _) (by unfold maxLen;omega) (by omega) (fD (k:=7) (enc:=Reg.enc) (Ok:=Ok) (fun _=>rfl) h) (ei (enc:=Reg.enc) Reg.one _)).mono fun e w' ⟨v,he,ho,_,hb⟩=>⟨v,he,ho,hb⟩
theorem Tryz.info102:(Tryz.prog.info? 102).map (fun i=>(i.zero,i.size,i.bytes))=some (some (.agg #[.int .i64 0,.int .i64 0,.int .i64 0,.int .i64 0,.string ⟨#[]⟩,.string ⟨#[]⟩,.bool false,.bool false]),8,72):=by kernel_rfl
theorem Cm.one:∀ (x:Cm)(v:Sm),v∈x.enc→v.oneCell'=true:=by
 intro x v hv
 simp only [Cm.enc,Sx,Sw,or_false] at hv
 rcases hv with rfl|rfl|rfl|rfl|rfl|rfl|rfl|rfl<;>rfl
theorem oH (ad:Addr)(c:Nat)(w:Sj):Sl Tryz.prog 69 #[.slice (some ad) 0 c] w (bF 102 8 Cm.enc [] w):=by
 have HE:=h_ (fun(v:Sm) (w':Sj) (ho:w'.ownsRow w.heap.size 102 8 v (0+([]:List Cm).length) ([]++([]:List Cm).flatMap Cm.enc)) (hb:Sp w.heap.size w w')=>show bF 102 8 Cm.enc [] w (.returned v) w' from⟨v,rfl,ho,hb⟩)
 have q22:∀ (w:Sj) (a:Option Addr) (n c n' c':Nat),(binOp .eql 25 (.slice a n c) (.slice none n' c')).run Tryz.prog w=.ok (.bool a.isNone) w:=fun w a n c n' c'=>Sy w _ _ a n c n' c' Tryz.underlying25
 obtain⟨j0,hj,hy0,hy1,hy2⟩:=Sk Tryz.info102
 have JI:=h_ hj;have J0:=h_ hy0;have J1:=h_ hy1;have J2:=h_ hy2
 generalize bF 102 8 Cm.enc [] w=Q at *
 clear hj hy0 hy1 hy2
 go_enter Tryz.func69,Tryz.ntmps69
 go_wp2_with (at_builtin;refine aJ (enc:=Cm.enc) (Ok:=Flat) _ rfl (.tmp 5) (.tmp 6) 25 rfl w.heap.size 102 j0 _ 8 72 Tryz.underlying25 JI.out J0.out J1.out J2.out rfl (by decide) (fun _=>rfl) Cm.one _ 0 [] rfl (Sz w #[] 0 (St _) (Su _) (by simp)) (some ad) c [] rfl (.inl rfl) ?h63 ?hb ?hbase ?_)
 try (case h63=>decide)
 try (case hb=>decide)
 try (case hbase=>simp)
 intro v' w' ho hg _
 have HO:=h_ ho
 have HB:=h_ (show Sp w.heap.size w w' from((Ss _ _).alloc (St _) _).grown hg (by simp) (fun j hj=>by simp [Sr] at hj;omega))
 clear ho hg
 go_wp2_with fail
 exact HE.out _ _ HO.out HB.out
theorem oI {Ok:Sj→Cm→Prop} (a:Option Addr)(cap:Nat)(xs:List Cm)(w:Sj)(h:ah 8 Cm.enc Ok w a xs)(hl:xs.length≤4000000):Sl Tryz.prog 69 #[.slice a xs.length cap] w (bF 102 8 Cm.enc xs w):=by
 rcases xs with _|⟨x0,xl⟩
 · cases a with
   | none=>exact(Tryz.slices_Clone_nil_f69 0 cap w).mono fun e w' ⟨he,hw⟩=>⟨_,he,SA _ _ _ _,hw▸Ss _ _⟩
   | some ad=>exact oH ad cap w
 · obtain⟨b,off,x,rfl,_⟩:=h.at_ (show 0<(x0::xl).length by simp)
   obtain⟨j0,hj,hy0,hy1,hy2⟩:=Sk Tryz.info102
   exact(Tryz.slices_Clone_f69 j0 _ 8 72 hj hy0 hy1 hy2 rfl (by decide) (fun w=>by kernel_rfl) b off (x0::xl).length cap ((x0::xl).flatMap Cm.enc) w (bz Cm.enc 8 (fun _=>rfl) _) (by unfold maxLen;omega) (by omega) (fD (k:=8) (enc:=Cm.enc) (Ok:=Ok) (fun _=>rfl) h) (ei (enc:=Cm.enc) Cm.one _)).mono fun e w' ⟨v,he,ho,_,hb⟩=>⟨v,he,ho,hb⟩
theorem Tryz.info72:(Tryz.prog.info? 72).map (fun i=>(i.zero,i.size,i.bytes))=some (some (.agg #[.int .i64 0,.int .i64 0,.int .i64 0,.string ⟨#[]⟩,.int .u8 0,.string ⟨#[]⟩,.slice none 0 0]),7,88):=by kernel_rfl
theorem Ev.one:∀ (x:Ev)(v:Sm),v∈x.enc→v.oneCell'=true:=by
 intro x v hv
 simp only [Ev.enc,Sx,Sw,or_false] at hv
 rcases hv with rfl|rfl|rfl|rfl|rfl|rfl|rfl<;>rfl
theorem oF (ad:Addr)(c:Nat)(w:Sj):Sl Tryz.prog 70 #[.slice (some ad) 0 c] w (bF 72 7 Ev.enc [] w):=by
 have HE:=h_ (fun(v:Sm) (w':Sj) (ho:w'.ownsRow w.heap.size 72 7 v (0+([]:List Ev).length) ([]++([]:List Ev).flatMap Ev.enc)) (hb:Sp w.heap.size w w')=>show bF 72 7 Ev.enc [] w (.returned v) w' from⟨v,rfl,ho,hb⟩)
 have q22:∀ (w:Sj) (a:Option Addr) (n c n' c':Nat),(binOp .eql 24 (.slice a n c) (.slice none n' c')).run Tryz.prog w=.ok (.bool a.isNone) w:=fun w a n c n' c'=>Sy w _ _ a n c n' c' Tryz.underlying24
 obtain⟨j0,hj,hy0,hy1,hy2⟩:=Sk Tryz.info72
 have JI:=h_ hj;have J0:=h_ hy0;have J1:=h_ hy1;have J2:=h_ hy2
 generalize bF 72 7 Ev.enc [] w=Q at *
 clear hj hy0 hy1 hy2
 go_enter Tryz.func70,Tryz.ntmps70
 go_wp2_with (at_builtin;refine aJ (enc:=Ev.enc) (Ok:=Flat) _ rfl (.tmp 5) (.tmp 6) 24 rfl w.heap.size 72 j0 _ 7 88 Tryz.underlying24 JI.out J0.out J1.out J2.out rfl (by decide) (fun _=>rfl) Ev.one _ 0 [] rfl (Sz w #[] 0 (St _) (Su _) (by simp)) (some ad) c [] rfl (.inl rfl) ?h63 ?hb ?hbase ?_)
 try (case h63=>decide)
 try (case hb=>decide)
 try (case hbase=>simp)
 intro v' w' ho hg _
 have HO:=h_ ho
 have HB:=h_ (show Sp w.heap.size w w' from((Ss _ _).alloc (St _) _).grown hg (by simp) (fun j hj=>by simp [Sr] at hj;omega))
 clear ho hg
 go_wp2_with fail
 exact HE.out _ _ HO.out HB.out
theorem oG {Ok:Sj→Ev→Prop} (a:Option Addr)(cap:Nat)(xs:List Ev)(w:Sj)(h:ah 7 Ev.enc Ok w a xs)(hl:xs.length≤4000000):Sl Tryz.prog 70 #[.slice a xs.length cap] w (bF 72 7 Ev.enc xs w):=by
 rcases xs with _|⟨x0,xl⟩
 · cases a with
   | none=>exact(Tryz.slices_Clone_nil_f70 0 cap w).mono fun e w' ⟨he,hw⟩=>⟨_,he,SA _ _ _ _,hw▸Ss _ _⟩
   | some ad=>exact oF ad cap w
 · obtain⟨b,off,x,rfl,_⟩:=h.at_ (show 0<(x0::xl).length by simp)
   obtain⟨j0,hj,hy0,hy1,hy2⟩:=Sk Tryz.info72
   exact(Tryz.slices_Clone_f70 j0 _ 7 88 hj hy0 hy1 hy2 rfl (by decide) (fun w=>by kernel_rfl) b off (x0::xl).length cap ((x0::xl).flatMap Ev.enc) w (bz Ev.enc 7 (fun _=>rfl) _) (by unfold maxLen;omega) (by omega) (fD (k:=7) (enc:=Ev.enc) (Ok:=Ok) (fun _=>rfl) h) (ei (enc:=Ev.enc) Ev.one _)).mono fun e w' ⟨v,he,ho,_,hb⟩=>⟨v,he,ho,hb⟩
structure Hd where
 title:ByteArray
 lA:ByteArray
 rate:Int
 drop:Bool
 last:Int
def Hd.enc (h:Hd):List Sm:=[.string h.title,.string h.lA,.int .u8 h.rate,.bool h.drop,.int .i64 h.last]
def Doc.hd (d:Doc):Hd:=⟨d.title,d.lA,d.rate,d.drop,d.last⟩
def hdEq (a b:Hd):Bool:=a.title.toList==b.title.toList&&a.lA.toList==b.lA.toList&&a.rate==b.rate&&a.drop==b.drop&&a.last==b.last
theorem BL (a b:Hd)(w:Sj):(binOp .eql 95 (.agg a.enc.toArray) (.agg b.enc.toArray)).run Tryz.prog w=.ok (.bool (hdEq a b)) w:=by
 simp [go_sem,Hd.enc,hdEq]
 repeat' split
 all_goals simp_all
theorem BK (a b:Hd)(w:Sj):(binOp .neq 95 (.agg a.enc.toArray) (.agg b.enc.toArray)).run Tryz.prog w=.ok (.bool (!hdEq a b)) w:=by
 simp [go_sem,Hd.enc,hdEq]
 repeat' split
 all_goals simp_all
theorem pr (d:Doc)(w:Sj):Sl Tryz.prog 47 #[.agg d.enc.toArray] w fun e w'=>e=.returned (.agg d.hd.enc.toArray)∧Sp w.heap.size w w':=by
 obtain⟨title,lA,rate,drop,last,ra,rc,rG,ea,ec,eV,ca,cc,cM⟩:=d
 simp only [Doc.enc,Doc.hd,Hd.enc]
 generalize hQ:(fun(e:Ending) (w':Sj)=>e=.returned (.agg [Sq title,.string lA,.int .u8 rate,.bool drop,.int .i64 last].toArray)∧Sp w.heap.size w w')=Q
 have HQ:=h_ (fun w' (hb:Sp w.heap.size w w')=>show Q (.returned (.agg #[Sq title,.string lA,.int .u8 rate,.bool drop,.int .i64 last])) w' from hQ▸⟨rfl,hb⟩)
 clear hQ
 go_enter Tryz.func47,Tryz.ntmps47
 go_wp2_with fail
 refine bodyPost_ret (v:=.agg #[Sq title,.string lA,.int .u8 rate,.bool drop,.int .i64 last]) (by simp [results,Tryz.results47,go_sem]) rfl (HQ.out _ ?_)
 exact(((Ss _ _).alloc (St _) _).alloc (by simp) _)
theorem mB (d:Doc)(w:Sj):Sl Tryz.prog 60 #[.agg d.enc.toArray] w fun e w'=>e=.returned (.agg d.hd.enc.toArray)∧Sp w.heap.size w w':=by
 obtain⟨title,lA,rate,drop,last,ra,rc,rG,ea,ec,eV,ca,cc,cM⟩:=d
 simp only [Doc.enc,Doc.hd,Hd.enc]
 generalize hQ:(fun(e:Ending) (w':Sj)=>e=.returned (.agg [Sq title,.string lA,.int .u8 rate,.bool drop,.int .i64 last].toArray)∧Sp w.heap.size w w')=Q
 have HQ:=h_ (fun w' (hb:Sp w.heap.size w w')=>show Q (.returned (.agg #[Sq title,.string lA,.int .u8 rate,.bool drop,.int .i64 last])) w' from hQ▸⟨rfl,hb⟩)
 clear hQ
 go_enter Tryz.func60,Tryz.ntmps60
 go_wp2_with fail
 refine bodyPost_ret (v:=.agg #[Sq title,.string lA,.int .u8 rate,.bool drop,.int .i64 last]) (by simp [results,Tryz.results60,go_sem]) rfl (HQ.out _ ?_)
 exact(((Ss _ _).alloc (St _) _).alloc (by simp) _)
def evEq (x y:Ev):Bool:=x.id==y.id&&(x.inn==y.inn&&x.out==y.out)&&x.region.toList==y.region.toList&&x.kind==y.kind&&x.speaker.toList==y.speaker.toList&&dZ x.rows y.rows
theorem o0 (a b c d:Int)(w:Sj):(binOp .eql 30 (.agg #[.int .i64 a,.int .i64 b]) (.agg #[.int .i64 c,.int .i64 d])).run Tryz.prog w=.ok (.bool (a==c&&b==d)) w:=by
 simp [go_sem]
 repeat' split
 all_goals simp_all
theorem tj (x y:Ev)(w:Sj)(h:x.lies w)(h':y.lies w)(hf:∀ r∈x.rows,r.runs.length≤4000000)(hf':∀ r∈y.rows,r.runs.length≤4000000)(hl:x.rows.length≤4000000) :
 Sl Tryz.prog 50 #[.agg x.enc.toArray,.agg y.enc.toArray] w fun e w'=>e=.returned (.bool (evEq x y))∧Sp w.heap.size w w':=by
 have hb2:∀ o o',Sp w.heap.size w ((w.alloc o).alloc o'):=fun o o'=>((Ss _ _).alloc (St _) _).alloc (by simp) _
 have HC:=h_ (fun o o'=>oc x.at_ y.at_ x.cap y.cap x.rows y.rows ((w.alloc o).alloc o') (bx.later h (hb2 o o')) (bx.later h' (hb2 o o')) hf hf' hl)
 have HB:=h_ (fun o o' w1 (h1:Sp ((w.alloc o).alloc o').heap.size ((w.alloc o).alloc o') w1)=>(hb2 o o').trans (h1.mono (by simp;omega)))
 have HB0:=h_ hb2
 have hE:evEq x y=(x.id==y.id&&(x.inn==y.inn&&x.out==y.out)&&x.region.toList==y.region.toList&&x.kind==y.kind&&x.speaker.toList==y.speaker.toList&&dZ x.rows y.rows):=rfl
 generalize hQ:(fun(e:Ending) (w':Sj)=>e=.returned (.bool (evEq x y))∧Sp w.heap.size w w')=Q
 generalize dZ x.rows y.rows=G at HC hE
 obtain⟨id,inn,out,reg,kind,sp,xa,xc,xr⟩:=x
 obtain⟨id',inn',out',reg',kind',sp',ya,yc,yr⟩:=y
 simp only [Ev.enc] at *
 have hsp:=o0 inn out inn' out'
 rcases SB (id==id') with h1|h1
 rotate_left
 · rw [h1] at hE
   have HQ:=h_ (fun w' (hb:Sp w.heap.size w w')=>show Q (.returned (.bool false)) w' from hQ▸⟨by rw [hE];rfl,hb⟩)
   clear hQ hE hb2 h h' hf hf' hsp
   go_enter Tryz.func50,Tryz.ntmps50
   go_wp2_with fail
   exact HQ.out _ (HB0.out _ _)
 rcases SB (inn==inn'&&out==out') with h2|h2
 rotate_left
 · rw [h1,h2] at hE
   rw [h2] at hsp
   have HQ:=h_ (fun w' (hb:Sp w.heap.size w w')=>show Q (.returned (.bool false)) w' from hQ▸⟨by rw [hE];rfl,hb⟩)
   clear hQ hE hb2 h h' hf hf' h2
   go_enter Tryz.func50,Tryz.ntmps50
   go_wp2_with fail
   exact HQ.out _ (HB0.out _ _)
 rcases SB (reg.toList==reg'.toList) with h3|h3
 rotate_left
 · rw [h1,h2,h3] at hE
   rw [h2] at hsp
   have HQ:=h_ (fun w' (hb:Sp w.heap.size w w')=>show Q (.returned (.bool false)) w' from hQ▸⟨by rw [hE];rfl,hb⟩)
   clear hQ hE hb2 h h' hf hf' h2
   go_enter Tryz.func50,Tryz.ntmps50
   go_wp2_with fail
   exact HQ.out _ (HB0.out _ _)
 rcases SB (kind==kind') with h4|h4
 rotate_left
 · rw [h1,h2,h3,h4] at hE
   rw [h2] at hsp
   have HQ:=h_ (fun w' (hb:Sp w.heap.size w w')=>show Q (.returned (.bool false)) w' from hQ▸⟨by rw [hE];rfl,hb⟩)
   clear hQ hE hb2 h h' hf hf' h2
   go_enter Tryz.func50,Tryz.ntmps50
   go_wp2_with fail
   exact HQ.out _ (HB0.out _ _)
 rcases SB (sp.toList==sp'.toList) with h5|h5
 rotate_left
 · rw [h1,h2,h3,h4,h5] at hE
   rw [h2] at hsp
   have HQ:=h_ (fun w' (hb:Sp w.heap.size w w')=>show Q (.returned (.bool false)) w' from hQ▸⟨by rw [hE];rfl,hb⟩)
   clear hQ hE hb2 h h' hf hf' h2
   go_enter Tryz.func50,Tryz.ntmps50
   go_wp2_with fail
   exact HQ.out _ (HB0.out _ _)
 rw [h1,h2,h3,h4,h5] at hE
 rw [h2] at hsp
 have HQ:=h_ (fun w' (hb:Sp w.heap.size w w')=>show Q (.returned (.bool G)) w' from hQ▸⟨by rw [hE];rfl,hb⟩)
 clear hQ hE hb2 h h' hf hf' h2
 go_enter Tryz.func50,Tryz.ntmps50
 go_wp2_with fail
 refine(HC.out _ _).mono ?_
 rintro e w1 ⟨rfl,hb⟩
 have bE:=h_ (HB.out _ _ _ hb)
 clear hb
 go_wp2_with fail
 exact HQ.out _ bE.out
end Go.Proofs.YtjebaagkomejaaaGreatDoor
