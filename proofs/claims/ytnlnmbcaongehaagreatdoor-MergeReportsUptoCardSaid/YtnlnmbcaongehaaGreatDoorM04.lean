/- Documents in memory, and the contract of document.anchored: the first error of the numbers of a comment. Copies: slices.Clone at rows, runs, regions, comments and events. (printed by gen_copies.py) DERIVED: THE SHELF's CONTRACTS AT THIS DUMP, IN PLAIN WORDS (tools/lay-plain.mjs out of 'YtnlnmbcaongehaaGreatDoorShelfT.lean', which tools/lay-shelf.mjs wrote): THE SAME DECLARATIONS UNDER THE SAME NAMES: 'import', 'namespace', 'open', 'def', 'theorem' AND NOTHING ELSE: no command of the shelf's: FOR A HAND-IN. Each laying: the table of numbers ('.._ren') and one theorem, a field a fact of the dump's own or the kernel's comparison; each contract: ONE APPLICATION. slices.Grow of nil and slices.Concat of two slices, at regions, events and comments. (printed by gen_concat.py) Plain laws on ascending lists without repetitions, and slices.Sort and slices.Compact on rows of the call's own. diff.keys at regions, events and comments: the keys of two lists, ascending, each once. (printed by gen_keys.py) -/
import Derived.Shelf.Spec.SlicesGrow
import Derived.Shelf.Strings.OnBuilder
import Derived.Shelf.Strconv.Itoa4
import Derived.Shelf.Slices.Turned
import Derived.Shelf.SortM.Plain
import Derived.Shelf.SortM.SortNone
import Derived.Lib.OwnBridge
import Derived.Test.YtnlnmbcaongehaaGreatDoorM03
set_option linter.unusedVariables false
set_option linter.unusedSimpArgs false
set_option maxRecDepth 100000
set_option maxHeartbeats 12800000
open Go.Lib renaming hid→h_
open Go renaming World→fm,Value→fp,info_parts→ft,Calls→fu,heap_alloc_last→fw
open List renaming mem_cons→fB,eq_nil_of_length_eq_zero→fC,not_mem_nil→fD,take_length→fE,take_append_of_le_length→fF,getElem?_eq_getElem→fG,take_of_length_le→fH,length_mergeSort→fI,mem_cons_of_mem→fJ,mem_append→fK,replicate→fL
open Go.RowKit.Below renaming refl→fM
open Nat renaming le_refl→fN,zero_le→fO,eq_zero_or_pos→fP,add_sub_cancel→fQ,add_zero→fR
open Go.Value renaming ownBlock→fS,int→fT
open Go.Lib renaming compactUpTo→fU,compact→fV,run_eql_slice_nil→fW,compact_length_le→fX,keeps→fY
open Go.World renaming ownsRow_nil→fZ,ownsRow_made→f_
open Go.Shelf renaming Ren→gd
namespace Go.Proofs.YtnlnmbcaongehaaGreatDoor
open Go.RowKit
structure Cm where
 id:Int
 ev:Int
 frm:Int
 til:Int
 author:ByteArray
 text:ByteArray
 done:Bool
 lost:Bool
def Cm.enc (c:Cm):List fp:=[.int .i64 c.id,.int .i64 c.ev,.int .i64 c.frm,.int .i64 c.til,.string c.author,.string c.text,.bool c.done,.bool c.lost]
def Cm.fits (c:Cm):Prop:=i64 c.id∧i64 c.ev∧i64 c.frm∧i64 c.til∧c.author.size≤4000000∧c.text.size≤4000000
structure Doc where
 title:ByteArray
 lang:ByteArray
 rate:Int
 drop:Bool
 last:Int
 ra:Option Addr
 rc:Nat
 rG:List Reg
 ea:Option Addr
 ec:Nat
 evs:List Ev
 ca:Option Addr
 cc:Nat
 cms:List Cm
def Doc.enc (d:Doc):List fp:=[.string d.title,.string d.lang,.int .u8 d.rate,.bool d.drop,.int .i64 d.last,.slice d.ra d.rG.length d.rc,.slice d.ea d.evs.length d.ec,.slice d.ca d.cms.length d.cc]
def zai (w:fm)(a:Option Addr)(xs:List Ev):Prop:=af 7 Ev.enc Ev.lies w a xs
theorem zai.later {w w':fm} {a:Option Addr} {xs:List Ev} (h:zai w a xs)(hb:Below w.heap.size w w'):zai w' a xs:=af.keeps Ev.keeps w w' a xs hb h
def zjU (w:fm)(a:Option Addr)(xs:List Cm):Prop:=af 8 Cm.enc Flat w a xs
theorem zjU.later {w w':fm} {a:Option Addr} {xs:List Cm} (h:zjU w a xs)(hb:Below w.heap.size w w'):zjU w' a xs:=af.keeps Flat.keeps w w' a xs hb h
def Doc.lies (w:fm)(d:Doc):Prop:=Regs w d.ra d.rG∧zai w d.ea d.evs∧zjU w d.ca d.cms
theorem Doc.later {w w':fm} {d:Doc} (h:d.lies w)(hb:Below w.heap.size w w'):d.lies w':=⟨h.1.later hb,h.2.1.later hb,h.2.2.later hb⟩
def Doc.fits (d:Doc):Prop:=d.title.size≤4000000∧d.lang.size≤4000000∧0≤d.rate∧d.rate≤255∧i64 d.last∧(∀ r∈d.rG,r.fits)∧d.rG.length≤4000000∧(∀ x∈d.evs,x.fits)∧d.evs.length≤4000000∧(∀ c∈d.cms,c.fits)∧d.cms.length≤4000000
def aW (last:Int)(f:Int→Option Nat)(evs:List Ev)(c:Cm):Int :=
 if c.ev<1∨last<c.ev then 2 else if c.lost then (if c.frm≠0∨c.til≠0 then 2 else 0) else match f c.ev with
  | none=>6
  | some i=>if c.frm<0∨c.til≤c.frm∨eY ((evs[i]?.map Ev.rows).getD [])<c.til then 2 else 0
theorem zhX (last:Int)(f:Int→Option Nat)(evs:List Ev)(c:Cm)(hf:∀ z i,f z=some i→i<evs.length) :
 (aW last f evs c=2∧c.ev<1)∨(aW last f evs c=2∧1≤c.ev∧last<c.ev)∨(1≤c.ev∧c.ev≤last ∧
  ((c.lost=true∧((aW last f evs c=2∧c.frm≠0)∨(aW last f evs c=2∧c.frm=0∧c.til≠0)∨(aW last f evs c=0∧c.frm=0∧c.til=0))) ∨
   (c.lost=false∧((f c.ev=none∧aW last f evs c=6)∨∃ i x,f c.ev=some i∧i<evs.length∧evs[i]? =some x ∧
    ((aW last f evs c=2∧c.frm<0)∨(aW last f evs c=2∧0≤c.frm∧c.til≤c.frm)∨(0≤c.frm∧c.frm<c.til∧((aW last f evs c=2∧eY x.rows<c.til)∨(aW last f evs c=0∧c.til≤eY x.rows)))))))):=by
 unfold aW
 by_cases h1:c.ev<1
 · left;simp [h1]
 right
 by_cases h2:last<c.ev
 · left;simp [h1,h2];omega
 right
 refine⟨by omega,by omega,?_⟩
 rw [if_neg (by omega)]
 cases hl:c.lost
 · right
   refine⟨rfl,?_⟩
   cases hq:f c.ev with
   | none=>left;simp
   | some i =>
     right
     have hi:=hf _ _ hq
     refine⟨i,evs[i],rfl,hi,fG hi,?_⟩
     simp only [fG hi,Option.map_some,Option.getD_some,Bool.false_eq_true,if_false]
     by_cases h3:c.frm<0
     · left;simp [h3]
     right
     by_cases h4:c.til≤c.frm
     · left;simp [h4];omega
     right
     refine⟨by omega,by omega,?_⟩
     by_cases h5:eY evs[i].rows<c.til
     · left;simp [h5]
     · right;rw [if_neg (by omega)];exact⟨rfl,by omega⟩
 · left
   refine⟨rfl,?_⟩
   simp only [if_true]
   by_cases h3:c.frm=0
   · by_cases h4:c.til=0
     · right;right;simp [h3,h4]
     · right;left;simp [h3,h4]
   · left;simp [h3]
theorem zfF {W w':fm} {B b o:Nat} {v:fp} (h:W.cell? ⟨b,o,none⟩=some v)(hB:b<B)(hb:Below B W w'):w'.cell? ⟨b,o,none⟩=some v :=
 (hb.cell (p:=⟨b,o,none⟩) hB).trans h
theorem bA (w:fm)(cs cs':Array fp)(t t':TypeId)(j:Nat)(v:fp)(h:cs[j]? =some v)(w':fm)(hb:Below (w.heap.size+2) ((w.alloc (.cells cs t)).alloc (.cells cs' t')) w'):w'.cell? ⟨w.heap.size,j,none⟩=some v:=by
 refine zfF ?_ (by omega) hb
 rw [fm.cell?_alloc_lt _ _ _ (by simp),cell_of_row _ _ j cs t (0,0) (fw w _),h]
theorem bM (w:fm)(cs cs':Array fp)(t t':TypeId)(j:Nat)(v:fp)(h:cs'[j]? =some v)(w':fm)(hb:Below (w.heap.size+2) ((w.alloc (.cells cs t)).alloc (.cells cs' t')) w'):w'.cell? ⟨w.heap.size+1,j,none⟩=some v:=by
 refine zfF ?_ (by omega) hb
 have:=fw (w.alloc (.cells cs t)) (.cells cs' t')
 rw [fm.size_alloc] at this
 rw [cell_of_row _ _ j cs' t' (0,0) this,h]
theorem zbx {w w':fm} {o o':Obj} (hb:Below (w.heap.size+2) ((w.alloc o).alloc o') w'):Below w.heap.size w w' :=
 (((fM _ _).alloc (fN _) _).alloc (by simp) _).trans (hb.mono (by omega))
theorem zdH (d:Doc)(c:Cm)(b n:Nat)(f:Int→Option Nat)(w:fm)(hE:Env w)(hd:zai w d.ea d.evs)(hfd:∀ x∈d.evs,x.fits)(hle:d.evs.length≤4000000)(hc:c.fits)(hM:IMap w b n f)(hf:∀ z i,f z=some i→i<d.evs.length) :
 fu Tryz.prog 161 #[.agg d.enc.toArray,.agg c.enc.toArray,.map (some b)] w fun e w'=>e=.returned (.int .i64 (aW d.last f d.evs c))∧Below w.heap.size w w':=by
 have hcs:=zhX d.last f d.evs c hf
 generalize aW d.last f d.evs c=G at *
 obtain⟨title,lang,rate,drop,last,ra,rc,rG,ea,ec,evs,ca,cc,cms⟩:=d
 obtain⟨_,hi2,hi3,hi4,_,_⟩:=hc
 obtain⟨id,ev,frm,til,author,text,done,lost⟩:=c
 simp only at hcs hi2 hi3 hi4 hd hfd hf hle
 simp only [Doc.enc,Cm.enc]
 generalize hds:#[fp.string title,.string lang,.int .u8 rate,.bool drop,.int .i64 last,.slice ra rG.length rc,.slice ea evs.length ec,.slice ca cms.length cc]=ds
 generalize hqs:#[fT .i64 id,.int .i64 ev,.int .i64 frm,.int .i64 til,.string author,.string text,.bool done,.bool lost]=qs
 have f4:=bA w ds qs 27 52 4 (.int .i64 last) (by rw [←hds];rfl)
 have f6:=bA w ds qs 27 52 6 (.slice ea evs.length ec) (by rw [←hds];rfl)
 have g1:=bM w ds qs 27 52 1 (.int .i64 ev) (by rw [←hqs];rfl)
 have g2:=bM w ds qs 27 52 2 (.int .i64 frm) (by rw [←hqs];rfl)
 have g3:=bM w ds qs 27 52 3 (.int .i64 til) (by rw [←hqs];rfl)
 have g7:=bM w ds qs 27 52 7 (.bool lost) (by rw [←hqs];rfl)
 have HB:=h_ (fun(w1:fm) (h:Below (w.heap.size+2) ((w.alloc (.cells ds 27)).alloc (.cells qs 52)) w1)=>zbx h)
 have hb0:Below (w.heap.size+2) ((w.alloc (.cells ds 27)).alloc (.cells qs 52)) ((w.alloc (.cells ds 27)).alloc (.cells qs 52)):=fM _ _
 have hsz:((w.alloc (.cells ds 27)).alloc (.cells qs 52)).heap.size=w.heap.size+2:=by simp
 have HLK:=h_ ((hM.below (HB.out _ hb0) hM.lt).look hi2)
 generalize hW0:(w.alloc (.cells ds 27)).alloc (.cells qs 52)=W0 at *
 have HW0:=h_ hW0
 have HSZ:=h_ hsz
 have HD:=h_ hd
 have HFD:=h_ hfd
 clear hW0 hsz hd hfd hf hM
 have hlk:=HLK.out
 rw [←HW0.out] at hlk
 clear HLK
 go_enter Tryz.func161,Tryz.ntmps161
 subst hds
 subst hqs
 rcases hcs with⟨rfl,h1⟩|⟨rfl,h1,h2⟩|⟨h1,h2,⟨rfl,⟨rfl,h3⟩|⟨rfl,rfl,h3⟩|⟨rfl,rfl,rfl⟩⟩|⟨rfl,⟨hq,rfl⟩|⟨i,x,hq,hi,hx,hcs⟩⟩⟩
 · clear hlk
   go_wp2_with fail
   rw [HW0.out]
   go_ret
   exact⟨rfl,HB.out _ hb0⟩
 · clear hlk
   go_wp2_with fail
   rw [HW0.out]
   go_ret
   exact⟨rfl,HB.out _ hb0⟩
 · have h3d:(frm != 0)=true:=by simpa using h3
   clear hlk h3
   go_wp2_with fail
   rw [HW0.out]
   go_ret
   exact⟨rfl,HB.out _ hb0⟩
 · have h3d:(til != 0)=true:=by simpa using h3
   clear hlk h3
   go_wp2_with fail
   rw [HW0.out]
   go_ret
   exact⟨rfl,HB.out _ hb0⟩
 · clear hlk
   go_wp2_with fail
   rw [HW0.out]
   go_ret
   exact⟨rfl,HB.out _ hb0⟩
 · rw [hq] at hlk
   simp only [Option.isSome_none,Option.getD_none] at hlk
   have HLK:=h_ hlk
   clear hq hlk
   go_wp2_with (at_lookup;refine aa _ rfl _ _ _ _ rfl _ _ _ rfl rfl HLK.out ?_)
   rw [HW0.out]
   go_ret
   exact⟨rfl,HB.out _ hb0⟩
 · rw [hq] at hlk
   simp only [Option.isSome_some,Option.getD_some] at hlk
   have HLK:=h_ hlk
   clear hlk
   obtain⟨bb,off,x',rfl,hbl,hx',hcx,hok0⟩:=HD.out.at_ hi
   have hok:=Ev.keeps _ _ _ (HB.out _ hb0) hok0
   obtain rfl:x'=x:=Option.some.inj (hx'.symm.trans hx)
   have hfx:=HFD.out x' (List.mem_of_getElem? hx)
   have hb0d:Below (w.heap.size+2) W0 W0.drew:=hb0.drew
   have HLen:=h_ (zga x' W0.drew (hE.below (HB.out _ hb0d) (fN _)) (Ev.keeps _ _ _ ((fM W0.heap.size W0).drew) hok) hfx)
   have hcd:∀ j v,x'.enc[j]? =some v→∀ w1,Below (w.heap.size+2) W0 w1→w1.cell? ⟨bb,off+i*7+j,none⟩=some v:=fun j v hv w1 h=>by
    rw [(HB.out _ h).cell (p:=⟨bb,off+i*7+j,none⟩) hbl]
    exact hcx j v hv
   clear hq hx hx' hcx hok hok0 hfx
   obtain⟨xid,xin,xout,xreg,xkind,xsp,xa,xc,xrows⟩:=x'
   have HCD:=h_ hcd
   simp only [Ev.enc] at HLen hcs HCD
   generalize eY xrows=L at *
   clear hcd
   rcases hcs with⟨rfl,h3⟩|⟨rfl,h3,h4⟩|⟨h3,h4,⟨rfl,h5⟩|⟨rfl,h5⟩⟩
   · have h3d:decide (frm<0)=true:=by simp;omega
     clear HLen hbl
     go_wp2_with (at_lookup;refine aa _ rfl _ _ _ _ rfl _ _ _ rfl rfl HLK.out ?_)
     rw [HW0.out]
     go_quiet (fail)
     go_wp2_with fail
     go_ret
     exact⟨rfl,HB.out _ (below_drewN hb0 _)⟩
   · have h3d:decide (frm<0)=false:=by simp;omega
     have h4d:decide (til≤frm)=true:=by simp;omega
     clear HLen hbl
     go_wp2_with (at_lookup;refine aa _ rfl _ _ _ _ rfl _ _ _ rfl rfl HLK.out ?_)
     rw [HW0.out]
     go_quiet (fail)
     go_wp2_with fail
     go_ret
     exact⟨rfl,HB.out _ (below_drewN hb0 _)⟩
   · have h3d:decide (frm<0)=false:=by simp;omega
     have h4d:decide (til≤frm)=false:=by simp;omega
     have h5d:decide (L<til)=true:=by simp;omega
     go_wp2_with (at_lookup;refine aa _ rfl _ _ _ _ rfl _ _ _ rfl rfl HLK.out ?_)
     rw [HW0.out]
     have d0:=HCD.out 0 _ rfl;have d1:=HCD.out 1 _ rfl;have d2:=HCD.out 2 _ rfl;have d3:=HCD.out 3 _ rfl;have d4:=HCD.out 4 _ rfl;have d5:=HCD.out 5 _ rfl;have d6:=HCD.out 6 _ rfl
     simp only [fR] at d0
     clear HCD HLK HD HFD hE
     go_region_with (go_at_call 218;refine HLen.out.mono ?_;rintro e w1 ⟨rfl,hb1⟩;replace hb1:Below (w.heap.size+2) W0 w1:=hb0d.trans (hb1.mono (by have:=hb0d.size;rw [HSZ.out] at this;exact this)))
     all_goals
      go_wp2_with fail
      go_ret
      exact⟨rfl,HB.out _ hb1⟩
   · have h3d:decide (frm<0)=false:=by simp;omega
     have h4d:decide (til≤frm)=false:=by simp;omega
     have h5d:decide (L<til)=false:=by simp;omega
     go_wp2_with (at_lookup;refine aa _ rfl _ _ _ _ rfl _ _ _ rfl rfl HLK.out ?_)
     rw [HW0.out]
     have d0:=HCD.out 0 _ rfl;have d1:=HCD.out 1 _ rfl;have d2:=HCD.out 2 _ rfl;have d3:=HCD.out 3 _ rfl;have d4:=HCD.out 4 _ rfl;have d5:=HCD.out 5 _ rfl;have d6:=HCD.out 6 _ rfl
     simp only [fR] at d0
     clear HCD HLK HD HFD hE
     go_region_with (go_at_call 218;refine HLen.out.mono ?_;rintro e w1 ⟨rfl,hb1⟩;replace hb1:Below (w.heap.size+2) W0 w1:=hb0d.trans (hb1.mono (by have:=hb0d.size;rw [HSZ.out] at this;exact this)))
     all_goals
      go_wp2_with fail
      go_ret
      exact⟨rfl,HB.out _ hb1⟩
def aB {α:Type} (T k:Nat)(enc:α→List fp)(xs:List α)(w:fm)(e:Ending)(w':fm):Prop:=∃ v,e=.returned v∧w'.ownsRow w.heap.size T k v xs.length (xs.flatMap enc)∧Below w.heap.size w w'
theorem Tryz.info78:(Tryz.prog.info? 78).map (fun i=>(i.zero,i.size,i.bytes))=some (some (.agg #[.slice none 0 0]),1,24):=by kernel_rfl
theorem Row.one:∀ (x:Row)(v:fp),v∈x.enc→v.oneCell'=true:=by
 intro x v hv
 simp only [Row.enc,fB,fD,or_false] at hv
 rcases hv with rfl<;>rfl
theorem zdy (ad:Addr)(c:Nat)(w:fm):fu Tryz.prog 167 #[.slice (some ad) 0 c] w (aB 78 1 Row.enc [] w):=by
 have HE:=h_ (fun(v:fp) (w':fm) (ho:w'.ownsRow w.heap.size 78 1 v (0+([]:List Row).length) ([]++([]:List Row).flatMap Row.enc)) (hb:Below w.heap.size w w')=>show aB 78 1 Row.enc [] w (.returned v) w' from⟨v,rfl,ho,hb⟩)
 have q22:∀ (w:fm) (a:Option Addr) (n c n' c':Nat),(binOp .eql 48 (.slice a n c) (.slice none n' c')).run Tryz.prog w=.ok (.bool a.isNone) w:=fun w a n c n' c'=>fW w _ _ a n c n' c' Tryz.underlying48
 obtain⟨j0,hj,hy0,hy1,hy2⟩:=ft Tryz.info78
 have JI:=h_ hj;have J0:=h_ hy0;have J1:=h_ hy1;have J2:=h_ hy2
 generalize aB 78 1 Row.enc [] w=Q at *
 clear hj hy0 hy1 hy2
 go_enter Tryz.func167,Tryz.ntmps167
 go_wp2_with (at_builtin;refine aw (enc:=Row.enc) (Ok:=Flat) _ rfl (.tmp 5) (.tmp 6) 48 rfl w.heap.size 78 j0 _ 1 24 Tryz.underlying48 JI.out J0.out J1.out J2.out rfl (by decide) (fun _=>rfl) Row.one _ 0 [] rfl (f_ w #[] 0 (fN _) (fO _) (by simp)) (some ad) c [] rfl (.inl rfl) ?h63 ?hb ?hbase ?_)
 try (case h63=>decide)
 try (case hb=>decide)
 try (case hbase=>simp)
 intro v' w' ho hg _
 have HO:=h_ ho
 have HB:=h_ (show Below w.heap.size w w' from((fM _ _).alloc (fN _) _).grown hg (by simp) (fun j hj=>by simp [fS] at hj;omega))
 clear ho hg
 go_wp2_with fail
 exact HE.out _ _ HO.out HB.out
theorem zdz {Ok:fm→Row→Prop} (a:Option Addr)(cap:Nat)(xs:List Row)(w:fm)(h:af 1 Row.enc Ok w a xs)(hl:xs.length≤4000000):fu Tryz.prog 167 #[.slice a xs.length cap] w (aB 78 1 Row.enc xs w):=by
 rcases xs with _|⟨x0,xl⟩
 · cases a with
   | none=>exact(Tryz.slices_Clone_nil_f167 0 cap w).mono fun e w' ⟨he,hw⟩=>⟨_,he,fZ _ _ _ _,hw▸fM _ _⟩
   | some ad=>exact zdy ad cap w
 · obtain⟨b,off,x,rfl,_⟩:=h.at_ (show 0<(x0::xl).length by simp)
   obtain⟨j0,hj,hy0,hy1,hy2⟩:=ft Tryz.info78
   exact(Tryz.slices_Clone_f167 j0 _ 1 24 hj hy0 hy1 hy2 rfl (by decide) (fun w=>by kernel_rfl) b off (x0::xl).length cap ((x0::xl).flatMap Row.enc) w (cG Row.enc 1 (fun _=>rfl) _) (by unfold maxLen;omega) (by omega) (cq (k:=1) (enc:=Row.enc) (Ok:=Ok) (fun _=>rfl) h) (fk (enc:=Row.enc) Row.one _)).mono fun e w' ⟨v,he,ho,_,hb⟩=>⟨v,he,ho,hb⟩
theorem Tryz.info75:(Tryz.prog.info? 75).map (fun i=>(i.zero,i.size,i.bytes))=some (some (.agg #[.string ⟨#[]⟩,.int .u8 0,.bool false,.bool false,.string ⟨#[]⟩]),5,40):=by kernel_rfl
theorem Run.one:∀ (x:Run)(v:fp),v∈x.enc→v.oneCell'=true:=by
 intro x v hv
 simp only [Run.enc,fB,fD,or_false] at hv
 rcases hv with rfl|rfl|rfl|rfl|rfl<;>rfl
theorem zdw (ad:Addr)(c:Nat)(w:fm):fu Tryz.prog 168 #[.slice (some ad) 0 c] w (aB 75 5 Run.enc [] w):=by
 have HE:=h_ (fun(v:fp) (w':fm) (ho:w'.ownsRow w.heap.size 75 5 v (0+([]:List Run).length) ([]++([]:List Run).flatMap Run.enc)) (hb:Below w.heap.size w w')=>show aB 75 5 Run.enc [] w (.returned v) w' from⟨v,rfl,ho,hb⟩)
 have q22:∀ (w:fm) (a:Option Addr) (n c n' c':Nat),(binOp .eql 76 (.slice a n c) (.slice none n' c')).run Tryz.prog w=.ok (.bool a.isNone) w:=fun w a n c n' c'=>fW w _ _ a n c n' c' Tryz.underlying76
 obtain⟨j0,hj,hy0,hy1,hy2⟩:=ft Tryz.info75
 have JI:=h_ hj;have J0:=h_ hy0;have J1:=h_ hy1;have J2:=h_ hy2
 generalize aB 75 5 Run.enc [] w=Q at *
 clear hj hy0 hy1 hy2
 go_enter Tryz.func168,Tryz.ntmps168
 go_wp2_with (at_builtin;refine aw (enc:=Run.enc) (Ok:=Flat) _ rfl (.tmp 5) (.tmp 6) 76 rfl w.heap.size 75 j0 _ 5 40 Tryz.underlying76 JI.out J0.out J1.out J2.out rfl (by decide) (fun _=>rfl) Run.one _ 0 [] rfl (f_ w #[] 0 (fN _) (fO _) (by simp)) (some ad) c [] rfl (.inl rfl) ?h63 ?hb ?hbase ?_)
 try (case h63=>decide)
 try (case hb=>decide)
 try (case hbase=>simp)
 intro v' w' ho hg _
 have HO:=h_ ho
 have HB:=h_ (show Below w.heap.size w w' from((fM _ _).alloc (fN _) _).grown hg (by simp) (fun j hj=>by simp [fS] at hj;omega))
 clear ho hg
 go_wp2_with fail
 exact HE.out _ _ HO.out HB.out
theorem zdx {Ok:fm→Run→Prop} (a:Option Addr)(cap:Nat)(xs:List Run)(w:fm)(h:af 5 Run.enc Ok w a xs)(hl:xs.length≤4000000):fu Tryz.prog 168 #[.slice a xs.length cap] w (aB 75 5 Run.enc xs w):=by
 rcases xs with _|⟨x0,xl⟩
 · cases a with
   | none=>exact(Tryz.slices_Clone_nil_f168 0 cap w).mono fun e w' ⟨he,hw⟩=>⟨_,he,fZ _ _ _ _,hw▸fM _ _⟩
   | some ad=>exact zdw ad cap w
 · obtain⟨b,off,x,rfl,_⟩:=h.at_ (show 0<(x0::xl).length by simp)
   obtain⟨j0,hj,hy0,hy1,hy2⟩:=ft Tryz.info75
   exact(Tryz.slices_Clone_f168 j0 _ 5 40 hj hy0 hy1 hy2 rfl (by decide) (fun w=>by kernel_rfl) b off (x0::xl).length cap ((x0::xl).flatMap Run.enc) w (cG Run.enc 5 (fun _=>rfl) _) (by unfold maxLen;omega) (by omega) (cq (k:=5) (enc:=Run.enc) (Ok:=Ok) (fun _=>rfl) h) (fk (enc:=Run.enc) Run.one _)).mono fun e w' ⟨v,he,ho,_,hb⟩=>⟨v,he,ho,hb⟩
theorem Tryz.info44:(Tryz.prog.info? 44).map (fun i=>(i.zero,i.size,i.bytes))=some (some (.agg #[.string ⟨#[]⟩,.int .i64 0,.int .i64 0,.int .i64 0,.int .i64 0,.int .u8 0,.bool false]),7,56):=by kernel_rfl
theorem Reg.one:∀ (x:Reg)(v:fp),v∈x.enc→v.oneCell'=true:=by
 intro x v hv
 simp only [Reg.enc,fB,fD,or_false] at hv
 rcases hv with rfl|rfl|rfl|rfl|rfl|rfl|rfl<;>rfl
theorem zdE (ad:Addr)(c:Nat)(w:fm):fu Tryz.prog 106 #[.slice (some ad) 0 c] w (aB 44 7 Reg.enc [] w):=by
 have HE:=h_ (fun(v:fp) (w':fm) (ho:w'.ownsRow w.heap.size 44 7 v (0+([]:List Reg).length) ([]++([]:List Reg).flatMap Reg.enc)) (hb:Below w.heap.size w w')=>show aB 44 7 Reg.enc [] w (.returned v) w' from⟨v,rfl,ho,hb⟩)
 have q22:∀ (w:fm) (a:Option Addr) (n c n' c':Nat),(binOp .eql 23 (.slice a n c) (.slice none n' c')).run Tryz.prog w=.ok (.bool a.isNone) w:=fun w a n c n' c'=>fW w _ _ a n c n' c' Tryz.underlying23
 obtain⟨j0,hj,hy0,hy1,hy2⟩:=ft Tryz.info44
 have JI:=h_ hj;have J0:=h_ hy0;have J1:=h_ hy1;have J2:=h_ hy2
 generalize aB 44 7 Reg.enc [] w=Q at *
 clear hj hy0 hy1 hy2
 go_enter Tryz.func106,Tryz.ntmps106
 go_wp2_with (at_builtin;refine aw (enc:=Reg.enc) (Ok:=Flat) _ rfl (.tmp 5) (.tmp 6) 23 rfl w.heap.size 44 j0 _ 7 56 Tryz.underlying23 JI.out J0.out J1.out J2.out rfl (by decide) (fun _=>rfl) Reg.one _ 0 [] rfl (f_ w #[] 0 (fN _) (fO _) (by simp)) (some ad) c [] rfl (.inl rfl) ?h63 ?hb ?hbase ?_)
 try (case h63=>decide)
 try (case hb=>decide)
 try (case hbase=>simp)
 intro v' w' ho hg _
 have HO:=h_ ho
 have HB:=h_ (show Below w.heap.size w w' from((fM _ _).alloc (fN _) _).grown hg (by simp) (fun j hj=>by simp [fS] at hj;omega))
 clear ho hg
 go_wp2_with fail
 exact HE.out _ _ HO.out HB.out
theorem zdF {Ok:fm→Reg→Prop} (a:Option Addr)(cap:Nat)(xs:List Reg)(w:fm)(h:af 7 Reg.enc Ok w a xs)(hl:xs.length≤4000000):fu Tryz.prog 106 #[.slice a xs.length cap] w (aB 44 7 Reg.enc xs w):=by
 rcases xs with _|⟨x0,xl⟩
 · cases a with
   | none=>exact(Tryz.slices_Clone_nil_f106 0 cap w).mono fun e w' ⟨he,hw⟩=>⟨_,he,fZ _ _ _ _,hw▸fM _ _⟩
   | some ad=>exact zdE ad cap w
 · obtain⟨b,off,x,rfl,_⟩:=h.at_ (show 0<(x0::xl).length by simp)
   obtain⟨j0,hj,hy0,hy1,hy2⟩:=ft Tryz.info44
   exact(Tryz.slices_Clone_f106 j0 _ 7 56 hj hy0 hy1 hy2 rfl (by decide) (fun w=>by kernel_rfl) b off (x0::xl).length cap ((x0::xl).flatMap Reg.enc) w (cG Reg.enc 7 (fun _=>rfl) _) (by unfold maxLen;omega) (by omega) (cq (k:=7) (enc:=Reg.enc) (Ok:=Ok) (fun _=>rfl) h) (fk (enc:=Reg.enc) Reg.one _)).mono fun e w' ⟨v,he,ho,_,hb⟩=>⟨v,he,ho,hb⟩
theorem Tryz.info52:(Tryz.prog.info? 52).map (fun i=>(i.zero,i.size,i.bytes))=some (some (.agg #[.int .i64 0,.int .i64 0,.int .i64 0,.int .i64 0,.string ⟨#[]⟩,.string ⟨#[]⟩,.bool false,.bool false]),8,72):=by kernel_rfl
theorem Cm.one:∀ (x:Cm)(v:fp),v∈x.enc→v.oneCell'=true:=by
 intro x v hv
 simp only [Cm.enc,fB,fD,or_false] at hv
 rcases hv with rfl|rfl|rfl|rfl|rfl|rfl|rfl|rfl<;>rfl
theorem zdC (ad:Addr)(c:Nat)(w:fm):fu Tryz.prog 107 #[.slice (some ad) 0 c] w (aB 52 8 Cm.enc [] w):=by
 have HE:=h_ (fun(v:fp) (w':fm) (ho:w'.ownsRow w.heap.size 52 8 v (0+([]:List Cm).length) ([]++([]:List Cm).flatMap Cm.enc)) (hb:Below w.heap.size w w')=>show aB 52 8 Cm.enc [] w (.returned v) w' from⟨v,rfl,ho,hb⟩)
 have q22:∀ (w:fm) (a:Option Addr) (n c n' c':Nat),(binOp .eql 25 (.slice a n c) (.slice none n' c')).run Tryz.prog w=.ok (.bool a.isNone) w:=fun w a n c n' c'=>fW w _ _ a n c n' c' Tryz.underlying25
 obtain⟨j0,hj,hy0,hy1,hy2⟩:=ft Tryz.info52
 have JI:=h_ hj;have J0:=h_ hy0;have J1:=h_ hy1;have J2:=h_ hy2
 generalize aB 52 8 Cm.enc [] w=Q at *
 clear hj hy0 hy1 hy2
 go_enter Tryz.func107,Tryz.ntmps107
 go_wp2_with (at_builtin;refine aw (enc:=Cm.enc) (Ok:=Flat) _ rfl (.tmp 5) (.tmp 6) 25 rfl w.heap.size 52 j0 _ 8 72 Tryz.underlying25 JI.out J0.out J1.out J2.out rfl (by decide) (fun _=>rfl) Cm.one _ 0 [] rfl (f_ w #[] 0 (fN _) (fO _) (by simp)) (some ad) c [] rfl (.inl rfl) ?h63 ?hb ?hbase ?_)
 try (case h63=>decide)
 try (case hb=>decide)
 try (case hbase=>simp)
 intro v' w' ho hg _
 have HO:=h_ ho
 have HB:=h_ (show Below w.heap.size w w' from((fM _ _).alloc (fN _) _).grown hg (by simp) (fun j hj=>by simp [fS] at hj;omega))
 clear ho hg
 go_wp2_with fail
 exact HE.out _ _ HO.out HB.out
theorem zdD {Ok:fm→Cm→Prop} (a:Option Addr)(cap:Nat)(xs:List Cm)(w:fm)(h:af 8 Cm.enc Ok w a xs)(hl:xs.length≤4000000):fu Tryz.prog 107 #[.slice a xs.length cap] w (aB 52 8 Cm.enc xs w):=by
 rcases xs with _|⟨x0,xl⟩
 · cases a with
   | none=>exact(Tryz.slices_Clone_nil_f107 0 cap w).mono fun e w' ⟨he,hw⟩=>⟨_,he,fZ _ _ _ _,hw▸fM _ _⟩
   | some ad=>exact zdC ad cap w
 · obtain⟨b,off,x,rfl,_⟩:=h.at_ (show 0<(x0::xl).length by simp)
   obtain⟨j0,hj,hy0,hy1,hy2⟩:=ft Tryz.info52
   exact(Tryz.slices_Clone_f107 j0 _ 8 72 hj hy0 hy1 hy2 rfl (by decide) (fun w=>by kernel_rfl) b off (x0::xl).length cap ((x0::xl).flatMap Cm.enc) w (cG Cm.enc 8 (fun _=>rfl) _) (by unfold maxLen;omega) (by omega) (cq (k:=8) (enc:=Cm.enc) (Ok:=Ok) (fun _=>rfl) h) (fk (enc:=Cm.enc) Cm.one _)).mono fun e w' ⟨v,he,ho,_,hb⟩=>⟨v,he,ho,hb⟩
theorem Tryz.info50:(Tryz.prog.info? 50).map (fun i=>(i.zero,i.size,i.bytes))=some (some (.agg #[.int .i64 0,.int .i64 0,.int .i64 0,.string ⟨#[]⟩,.int .u8 0,.string ⟨#[]⟩,.slice none 0 0]),7,88):=by kernel_rfl
theorem Ev.one:∀ (x:Ev)(v:fp),v∈x.enc→v.oneCell'=true:=by
 intro x v hv
 simp only [Ev.enc,fB,fD,or_false] at hv
 rcases hv with rfl|rfl|rfl|rfl|rfl|rfl|rfl<;>rfl
theorem zdA (ad:Addr)(c:Nat)(w:fm):fu Tryz.prog 108 #[.slice (some ad) 0 c] w (aB 50 7 Ev.enc [] w):=by
 have HE:=h_ (fun(v:fp) (w':fm) (ho:w'.ownsRow w.heap.size 50 7 v (0+([]:List Ev).length) ([]++([]:List Ev).flatMap Ev.enc)) (hb:Below w.heap.size w w')=>show aB 50 7 Ev.enc [] w (.returned v) w' from⟨v,rfl,ho,hb⟩)
 have q22:∀ (w:fm) (a:Option Addr) (n c n' c':Nat),(binOp .eql 24 (.slice a n c) (.slice none n' c')).run Tryz.prog w=.ok (.bool a.isNone) w:=fun w a n c n' c'=>fW w _ _ a n c n' c' Tryz.underlying24
 obtain⟨j0,hj,hy0,hy1,hy2⟩:=ft Tryz.info50
 have JI:=h_ hj;have J0:=h_ hy0;have J1:=h_ hy1;have J2:=h_ hy2
 generalize aB 50 7 Ev.enc [] w=Q at *
 clear hj hy0 hy1 hy2
 go_enter Tryz.func108,Tryz.ntmps108
 go_wp2_with (at_builtin;refine aw (enc:=Ev.enc) (Ok:=Flat) _ rfl (.tmp 5) (.tmp 6) 24 rfl w.heap.size 50 j0 _ 7 88 Tryz.underlying24 JI.out J0.out J1.out J2.out rfl (by decide) (fun _=>rfl) Ev.one _ 0 [] rfl (f_ w #[] 0 (fN _) (fO _) (by simp)) (some ad) c [] rfl (.inl rfl) ?h63 ?hb ?hbase ?_)
 try (case h63=>decide)
 try (case hb=>decide)
 try (case hbase=>simp)
 intro v' w' ho hg _
 have HO:=h_ ho
 have HB:=h_ (show Below w.heap.size w w' from((fM _ _).alloc (fN _) _).grown hg (by simp) (fun j hj=>by simp [fS] at hj;omega))
 clear ho hg
 go_wp2_with fail
 exact HE.out _ _ HO.out HB.out
theorem zdB {Ok:fm→Ev→Prop} (a:Option Addr)(cap:Nat)(xs:List Ev)(w:fm)(h:af 7 Ev.enc Ok w a xs)(hl:xs.length≤4000000):fu Tryz.prog 108 #[.slice a xs.length cap] w (aB 50 7 Ev.enc xs w):=by
 rcases xs with _|⟨x0,xl⟩
 · cases a with
   | none=>exact(Tryz.slices_Clone_nil_f108 0 cap w).mono fun e w' ⟨he,hw⟩=>⟨_,he,fZ _ _ _ _,hw▸fM _ _⟩
   | some ad=>exact zdA ad cap w
 · obtain⟨b,off,x,rfl,_⟩:=h.at_ (show 0<(x0::xl).length by simp)
   obtain⟨j0,hj,hy0,hy1,hy2⟩:=ft Tryz.info50
   exact(Tryz.slices_Clone_f108 j0 _ 7 88 hj hy0 hy1 hy2 rfl (by decide) (fun w=>by kernel_rfl) b off (x0::xl).length cap ((x0::xl).flatMap Ev.enc) w (cG Ev.enc 7 (fun _=>rfl) _) (by unfold maxLen;omega) (by omega) (cq (k:=7) (enc:=Ev.enc) (Ok:=Ok) (fun _=>rfl) h) (fk (enc:=Ev.enc) Ev.one _)).mono fun e w' ⟨v,he,ho,_,hb⟩=>⟨v,he,ho,hb⟩
end Go.Proofs.YtnlnmbcaongehaaGreatDoor
namespace Go.Proofs
open Go.Shelf
def Tryz.lays156_ren:gd:=⟨fun|156=>68|165=>123|166=>67|169=>69|240=>122|241=>194|276=>193|277=>256|n=>n,fun|31=>55|9=>9|3=>3|4=>4|0=>0|20=>20|72=>123|76=>127|70=>120|37=>121|75=>126|127=>182|164=>257|5=>5|80=>130|n=>n,fun|n=>n⟩
theorem Tryz.lays156:Go.Proofs.Lays.n156 Tryz.prog Tryz.lays156_ren:={
 mixed:=by kernel_rfl
 f156:=Tryz.func68.trans (congrArg some (by kernel_rfl))
 f165:=Tryz.func123.trans (congrArg some (by kernel_rfl))
 f166:=Tryz.func67.trans (congrArg some (by kernel_rfl))
 f169:=Tryz.func69.trans (congrArg some (by kernel_rfl))
 f240:=Tryz.func122.trans (congrArg some (by kernel_rfl))
 f241:=Tryz.func194.trans (congrArg some (by kernel_rfl))
 f276:=Tryz.func193.trans (congrArg some (by kernel_rfl))
 f277:=Tryz.func256.trans (congrArg some (by kernel_rfl))
 t0:=Tryz.underlying0
 a0:=Tryz.isAgg0
 z0:=Tryz.sizeOf0
 v0:=Tryz.zeroValue0
 t3:=Tryz.underlying3
 a3:=Tryz.isAgg3
 z3:=Tryz.sizeOf3
 v3:=Tryz.zeroValue3
 t4:=Tryz.underlying4
 a4:=Tryz.isAgg4
 z4:=Tryz.sizeOf4
 v4:=Tryz.zeroValue4
 t9:=Tryz.underlying9
 a9:=Tryz.isAgg9
 z9:=Tryz.sizeOf9
 v9:=Tryz.zeroValue9
 t20:=Tryz.underlying20
 a20:=Tryz.isAgg20
 z20:=Tryz.sizeOf20
 v20:=Tryz.zeroValue20
 t31:=Tryz.underlying55
 a31:=Tryz.isAgg55
 z31:=Tryz.sizeOf55
 v31:=Tryz.zeroValue55
 t37:=Tryz.underlying121
 a37:=Tryz.isAgg121
 z37:=Tryz.sizeOf121
 v37:=Tryz.zeroValue121
 t70:=Tryz.underlying120
 a70:=Tryz.isAgg120
 z70:=Tryz.sizeOf120
 v70:=Tryz.zeroValue120
 t72:=Tryz.underlying123
 a72:=Tryz.isAgg123
 z72:=Tryz.sizeOf123
 v72:=Tryz.zeroValue123
 t75:=Tryz.underlying126
 a75:=Tryz.isAgg126
 z75:=Tryz.sizeOf126
 v75:=Tryz.zeroValue126
 t76:=Tryz.underlying127
 a76:=Tryz.isAgg127
 z76:=Tryz.sizeOf127
 v76:=Tryz.zeroValue127
 t127:=Tryz.underlying182
 a127:=Tryz.isAgg182
 z127:=Tryz.sizeOf182
 v127:=Tryz.zeroValue182
 t164:=Tryz.underlying257
 a164:=Tryz.isAgg257
 z164:=Tryz.sizeOf257
 v164:=Tryz.zeroValue257 }
theorem Tryz.Builder_Extra_156:Builder.Extra Tryz.prog Tryz.lays156_ren:={
 sizeBuilder:=by kernel_rfl
 liesBuilder:=by kernel_rfl
 t5:=Tryz.underlying5
 a5:=Tryz.isAgg5
 z5:=Tryz.sizeOf5
 v5:=Tryz.zeroValue5
 infoByte:=by kernel_rfl
 cellsByte:=by kernel_rfl
 sizeByte:=by kernel_rfl
 neB5:=by decide }
open Go.RowKit in
theorem Tryz.strings_Join_none (a:Option Addr)(c:Nat)(sep:ByteArray)(w:fm) :
 fu Tryz.prog 68 #[.slice a 0 c,.string sep] w fun e w'=>e=.returned (.string ⟨#[]⟩)∧w'=w:=Any.strings_Join_none Tryz.lays156 Tryz.Builder_Extra_156 a c sep w
open Go.RowKit in
theorem Tryz.strings_Join (bk o c:Nat)(xs:List ByteArray)(sep:ByteArray)(w:fm)(hcells:∀ (j:Nat) x,xs[j]? =some x→w.cell? ⟨bk,o+j,none⟩=some (.string x))(hbk:bk<w.heap.size)(hN:xs.length≤140737488355328)(hcap:xs.length≤c)(hlen:(Lib.join (xs.map (·.data.toList)) sep.data.toList).length≤140737488355328) :
 fu Tryz.prog 68 #[.slice (some ⟨bk,o,none⟩) xs.length c,.string sep] w fun e w'=>e=.returned (.string ⟨(Lib.join (xs.map (·.data.toList)) sep.data.toList).toArray⟩)∧Below w.heap.size w w':=Any.strings_Join Tryz.lays156 Tryz.Builder_Extra_156 bk o c xs sep w hcells hbk hN hcap hlen
def Tryz.laysSlM5_f94_ren:gd:=⟨fun|5=>94|8=>164|7=>166|19=>228|20=>229|10=>230|11=>231|12=>232|13=>233|14=>234|15=>235|16=>236|17=>237|18=>238|30=>271|31=>266|32=>267|33=>272|34=>273|35=>217|40=>288|n=>n,fun|23=>85|25=>2|3=>3|32=>238|22=>85|0=>0|44=>290|46=>259|4=>4|36=>284|35=>283|41=>156|5=>5|9=>9|53=>325|57=>329|63=>341|64=>342|n=>n,fun|n=>n⟩
theorem Tryz.laysSlM5_f94:Go.Proofs.SlLaysM.n5 Tryz.prog Tryz.laysSlM5_f94_ren:={
 mixed:=by kernel_rfl
 f5:=⟨Tryz.f94.name,by decide,Tryz.func94.trans (congrArg some (by kernel_rfl))⟩
 f7:=⟨Tryz.f166.name,by decide,Tryz.func166.trans (congrArg some (by kernel_rfl))⟩
 f8:=Tryz.func164.trans (congrArg some (by kernel_rfl))
 f10:=⟨Tryz.f230.name,by decide,Tryz.func230.trans (congrArg some (by kernel_rfl))⟩
 f11:=⟨Tryz.f231.name,by decide,Tryz.func231.trans (congrArg some (by kernel_rfl))⟩
 f12:=⟨Tryz.f232.name,by decide,Tryz.func232.trans (congrArg some (by kernel_rfl))⟩
 f13:=⟨Tryz.f233.name,by decide,Tryz.func233.trans (congrArg some (by kernel_rfl))⟩
 f14:=⟨Tryz.f234.name,by decide,Tryz.func234.trans (congrArg some (by kernel_rfl))⟩
 f15:=⟨Tryz.f235.name,by decide,Tryz.func235.trans (congrArg some (by kernel_rfl))⟩
 f16:=⟨Tryz.f236.name,by decide,Tryz.func236.trans (congrArg some (by kernel_rfl))⟩
 f17:=⟨Tryz.f237.name,by decide,Tryz.func237.trans (congrArg some (by kernel_rfl))⟩
 f18:=⟨Tryz.f238.name,by decide,Tryz.func238.trans (congrArg some (by kernel_rfl))⟩
 f19:=Tryz.func228.trans (congrArg some (by kernel_rfl))
 f20:=Tryz.func229.trans (congrArg some (by kernel_rfl))
 f30:=⟨Tryz.f271.name,by decide,Tryz.func271.trans (congrArg some (by kernel_rfl))⟩
 f31:=Tryz.func266.trans (congrArg some (by kernel_rfl))
 f32:=Tryz.func267.trans (congrArg some (by kernel_rfl))
 f33:=⟨Tryz.f272.name,by decide,Tryz.func272.trans (congrArg some (by kernel_rfl))⟩
 f34:=⟨Tryz.f273.name,by decide,Tryz.func273.trans (congrArg some (by kernel_rfl))⟩
 f35:=⟨Tryz.f217.name,by decide,Tryz.func217.trans (congrArg some (by kernel_rfl))⟩
 f40:=⟨Tryz.f288.name,by decide,Tryz.func288.trans (congrArg some (by kernel_rfl))⟩
 t0:=Tryz.underlying0
 a0:=Tryz.isAgg0
 z0:=Tryz.sizeOf0
 v0:=Tryz.zeroValue0
 t3:=Tryz.underlying3
 a3:=Tryz.isAgg3
 z3:=Tryz.sizeOf3
 v3:=Tryz.zeroValue3
 t4:=Tryz.underlying4
 a4:=Tryz.isAgg4
 z4:=Tryz.sizeOf4
 v4:=Tryz.zeroValue4
 t5:=Tryz.underlying5
 a5:=Tryz.isAgg5
 z5:=Tryz.sizeOf5
 v5:=Tryz.zeroValue5
 t9:=Tryz.underlying9
 a9:=Tryz.isAgg9
 z9:=Tryz.sizeOf9
 v9:=Tryz.zeroValue9
 t22:=Tryz.underlying85
 a22:=Tryz.isAgg85
 z22:=Tryz.sizeOf85
 v22:=Tryz.zeroValue85
 t23:=Tryz.underlying85
 a23:=Tryz.isAgg85
 z23:=Tryz.sizeOf85
 v23:=Tryz.zeroValue85
 t25:=Tryz.underlying2
 a25:=Tryz.isAgg2
 z25:=Tryz.sizeOf2
 v25:=Tryz.zeroValue2
 t32:=Tryz.underlying238
 a32:=Tryz.isAgg238
 z32:=Tryz.sizeOf238
 v32:=Tryz.zeroValue238
 t35:=Tryz.underlying283
 a35:=Tryz.isAgg283
 z35:=Tryz.sizeOf283
 v35:=Tryz.zeroValue283
 t36:=Tryz.underlying284
 a36:=Tryz.isAgg284
 z36:=Tryz.sizeOf284
 v36:=Tryz.zeroValue284
 t41:=Tryz.underlying156
 a41:=Tryz.isAgg156
 z41:=Tryz.sizeOf156
 v41:=Tryz.zeroValue156
 t44:=Tryz.underlying290
 a44:=Tryz.isAgg290
 z44:=Tryz.sizeOf290
 v44:=Tryz.zeroValue290
 t46:=Tryz.underlying259
 a46:=Tryz.isAgg259
 z46:=Tryz.sizeOf259
 v46:=Tryz.zeroValue259
 t53:=Tryz.underlying325
 a53:=Tryz.isAgg325
 z53:=Tryz.sizeOf325
 v53:=Tryz.zeroValue325
 t57:=Tryz.underlying329
 a57:=Tryz.isAgg329
 z57:=Tryz.sizeOf329
 v57:=Tryz.zeroValue329
 t63:=Tryz.underlying341
 a63:=Tryz.isAgg341
 z63:=Tryz.sizeOf341
 v63:=Tryz.zeroValue341
 t64:=Tryz.underlying342
 a64:=Tryz.isAgg342
 z64:=Tryz.sizeOf342
 v64:=Tryz.zeroValue342 }
open Go.Sort Go.RowKit in
theorem Tryz.slices_Sort_int (blk off cap:Nat)(zs:List Int)(w:fm)(hH:Holds (fT .i64) w blk off zs.toArray)(hblk:blk<w.heap.size)(hsz:zs.length<4611686018427387904) :
 fu Tryz.prog 94 #[.slice (some ⟨blk,off,none⟩) zs.length cap] w fun e w' =>
  e=.returned (.tuple #[])∧∃ n os,w'=grow (putRow (fT .i64) (Sort.ahead w n) blk off (zs.mergeSort fun x y=>decide (x≤y)).toArray) os:=AnyM.slices_Sort_int Tryz.laysSlM5_f94 blk off cap zs w hH hblk hsz
def Tryz.laysSlM6_f91_ren:gd:=⟨fun|6=>91|8=>164|9=>163|19=>228|20=>229|21=>219|22=>220|23=>221|24=>222|25=>223|26=>224|27=>225|28=>226|29=>227|36=>265|31=>266|32=>267|37=>268|38=>269|39=>270|41=>287|n=>n,fun|27=>55|29=>9|3=>3|32=>238|26=>55|0=>0|44=>290|46=>259|4=>4|36=>284|35=>283|41=>156|5=>5|9=>9|53=>325|57=>329|63=>341|64=>342|n=>n,fun|n=>n⟩
theorem Tryz.laysSlM6_f91:Go.Proofs.SlLaysM.n6 Tryz.prog Tryz.laysSlM6_f91_ren:={
 mixed:=by kernel_rfl
 f6:=⟨Tryz.f91.name,by decide,Tryz.func91.trans (congrArg some (by kernel_rfl))⟩
 f8:=Tryz.func164.trans (congrArg some (by kernel_rfl))
 f9:=⟨Tryz.f163.name,by decide,Tryz.func163.trans (congrArg some (by kernel_rfl))⟩
 f19:=Tryz.func228.trans (congrArg some (by kernel_rfl))
 f20:=Tryz.func229.trans (congrArg some (by kernel_rfl))
 f21:=⟨Tryz.f219.name,by decide,Tryz.func219.trans (congrArg some (by kernel_rfl))⟩
 f22:=⟨Tryz.f220.name,by decide,Tryz.func220.trans (congrArg some (by kernel_rfl))⟩
 f23:=⟨Tryz.f221.name,by decide,Tryz.func221.trans (congrArg some (by kernel_rfl))⟩
 f24:=⟨Tryz.f222.name,by decide,Tryz.func222.trans (congrArg some (by kernel_rfl))⟩
 f25:=⟨Tryz.f223.name,by decide,Tryz.func223.trans (congrArg some (by kernel_rfl))⟩
 f26:=⟨Tryz.f224.name,by decide,Tryz.func224.trans (congrArg some (by kernel_rfl))⟩
 f27:=⟨Tryz.f225.name,by decide,Tryz.func225.trans (congrArg some (by kernel_rfl))⟩
 f28:=⟨Tryz.f226.name,by decide,Tryz.func226.trans (congrArg some (by kernel_rfl))⟩
 f29:=⟨Tryz.f227.name,by decide,Tryz.func227.trans (congrArg some (by kernel_rfl))⟩
 f31:=Tryz.func266.trans (congrArg some (by kernel_rfl))
 f32:=Tryz.func267.trans (congrArg some (by kernel_rfl))
 f36:=⟨Tryz.f265.name,by decide,Tryz.func265.trans (congrArg some (by kernel_rfl))⟩
 f37:=⟨Tryz.f268.name,by decide,Tryz.func268.trans (congrArg some (by kernel_rfl))⟩
 f38:=⟨Tryz.f269.name,by decide,Tryz.func269.trans (congrArg some (by kernel_rfl))⟩
 f39:=⟨Tryz.f270.name,by decide,Tryz.func270.trans (congrArg some (by kernel_rfl))⟩
 f41:=⟨Tryz.f287.name,by decide,Tryz.func287.trans (congrArg some (by kernel_rfl))⟩
 t0:=Tryz.underlying0
 a0:=Tryz.isAgg0
 z0:=Tryz.sizeOf0
 v0:=Tryz.zeroValue0
 t3:=Tryz.underlying3
 a3:=Tryz.isAgg3
 z3:=Tryz.sizeOf3
 v3:=Tryz.zeroValue3
 t4:=Tryz.underlying4
 a4:=Tryz.isAgg4
 z4:=Tryz.sizeOf4
 v4:=Tryz.zeroValue4
 t5:=Tryz.underlying5
 a5:=Tryz.isAgg5
 z5:=Tryz.sizeOf5
 v5:=Tryz.zeroValue5
 t9:=Tryz.underlying9
 a9:=Tryz.isAgg9
 z9:=Tryz.sizeOf9
 v9:=Tryz.zeroValue9
 t26:=Tryz.underlying55
 a26:=Tryz.isAgg55
 z26:=Tryz.sizeOf55
 v26:=Tryz.zeroValue55
 t27:=Tryz.underlying55
 a27:=Tryz.isAgg55
 z27:=Tryz.sizeOf55
 v27:=Tryz.zeroValue55
 t29:=Tryz.underlying9
 a29:=Tryz.isAgg9
 z29:=Tryz.sizeOf9
 v29:=Tryz.zeroValue9
 t32:=Tryz.underlying238
 a32:=Tryz.isAgg238
 z32:=Tryz.sizeOf238
 v32:=Tryz.zeroValue238
 t35:=Tryz.underlying283
 a35:=Tryz.isAgg283
 z35:=Tryz.sizeOf283
 v35:=Tryz.zeroValue283
 t36:=Tryz.underlying284
 a36:=Tryz.isAgg284
 z36:=Tryz.sizeOf284
 v36:=Tryz.zeroValue284
 t41:=Tryz.underlying156
 a41:=Tryz.isAgg156
 z41:=Tryz.sizeOf156
 v41:=Tryz.zeroValue156
 t44:=Tryz.underlying290
 a44:=Tryz.isAgg290
 z44:=Tryz.sizeOf290
 v44:=Tryz.zeroValue290
 t46:=Tryz.underlying259
 a46:=Tryz.isAgg259
 z46:=Tryz.sizeOf259
 v46:=Tryz.zeroValue259
 t53:=Tryz.underlying325
 a53:=Tryz.isAgg325
 z53:=Tryz.sizeOf325
 v53:=Tryz.zeroValue325
 t57:=Tryz.underlying329
 a57:=Tryz.isAgg329
 z57:=Tryz.sizeOf329
 v57:=Tryz.zeroValue329
 t63:=Tryz.underlying341
 a63:=Tryz.isAgg341
 z63:=Tryz.sizeOf341
 v63:=Tryz.zeroValue341
 t64:=Tryz.underlying342
 a64:=Tryz.isAgg342
 z64:=Tryz.sizeOf342
 v64:=Tryz.zeroValue342 }
open Go.Sort Go.RowKit in
theorem Tryz.slices_Sort_string (blk off cap:Nat)(ss:List (List UInt8))(w:fm)(hH:Holds encStr w blk off ss.toArray)(hblk:blk<w.heap.size)(hsz:ss.length<4611686018427387904) :
 fu Tryz.prog 91 #[.slice (some ⟨blk,off,none⟩) ss.length cap] w fun e w' =>
  e=.returned (.tuple #[])∧∃ n os,w'=grow (putRow encStr (Sort.ahead w n) blk off (ss.mergeSort fun x y=>decide (x≤y)).toArray) os:=AnyM.slices_Sort_string Tryz.laysSlM6_f91 blk off cap ss w hH hblk hsz
open Go.RowKit Go.Sort in
theorem Tryz.slices_Sort_string_none (p:Option Addr)(cap:Nat)(w:fm) :
 fu Tryz.prog 91 #[.slice p 0 cap] w fun e w'=>e=.returned (.tuple #[])∧w'=w:=AnyM.slices_Sort_string_none Tryz.laysSlM6_f91 p cap w
open Go.RowKit Go.Sort in
theorem Tryz.slices_Sort_int_none (p:Option Addr)(cap:Nat)(w:fm) :
 fu Tryz.prog 94 #[.slice p 0 cap] w fun e w'=>e=.returned (.tuple #[])∧w'=w:=AnyM.slices_Sort_int_none Tryz.laysSlM5_f94 p cap w
def Tryz.grow162_ren:gd:=⟨fun|4=>162|n=>n,fun|22=>23|25=>44|3=>3|4=>4|9=>9|20=>20|0=>0|n=>n,fun|n=>n⟩
theorem Tryz.grow162:Go.Proofs.Lays8.n4 Tryz.prog Tryz.grow162_ren:={
 mixed:=by kernel_rfl
 f4:=⟨Tryz.f162.name,by decide,Tryz.func162.trans (congrArg some (by kernel_rfl))⟩
 t0:=Tryz.underlying0
 a0:=Tryz.isAgg0
 z0:=Tryz.sizeOf0
 v0:=Tryz.zeroValue0
 t3:=Tryz.underlying3
 a3:=Tryz.isAgg3
 z3:=Tryz.sizeOf3
 v3:=Tryz.zeroValue3
 t4:=Tryz.underlying4
 a4:=Tryz.isAgg4
 z4:=Tryz.sizeOf4
 v4:=Tryz.zeroValue4
 t9:=Tryz.underlying9
 a9:=Tryz.isAgg9
 z9:=Tryz.sizeOf9
 v9:=Tryz.zeroValue9
 t20:=Tryz.underlying20
 a20:=Tryz.isAgg20
 z20:=Tryz.sizeOf20
 v20:=Tryz.zeroValue20
 t22:=Tryz.underlying23
 a22:=Tryz.isAgg23
 z22:=Tryz.sizeOf23
 v22:=Tryz.zeroValue23 }
end Go.Proofs
namespace Go.Proofs.YtnlnmbcaongehaaGreatDoor
open Go.RowKit
theorem zhB (n:Nat)(w:fm)(hn:n≤8000000):fu Tryz.prog 162 #[.slice none 0 0,.int .i64 n] w (aB (α:=Reg) 44 7 Reg.enc [] w):=by
 rcases fP n with rfl|h0
 · exact(Any8.slices_Grow_room Tryz.grow162 none 0 0 0 w (fN _) (by omega) (by omega) (by omega)).mono fun e w' ⟨he,hw⟩=>⟨_,he,fZ _ _ _ _,hw▸fM _ _⟩
 · obtain⟨j0,hj,hy0,hy1,hy2⟩:=ft Tryz.info44
   have h:=Any8.slices_Grow_grow Tryz.grow162 j0 _ hj hy0 (by rw [hy1];decide) none 0 0 n [] w (fN _) (by omega) (by rw [hy2];omega) (by omega) (by simp) (fun _=>rfl) (fun a ha=>by cases ha)
   refine h.mono fun e w' ⟨he,hw⟩=>⟨_,he,?_,?_⟩
   · subst hw
     have hG:=grownCap_ge w (0+n) 0 (Tryz.grow162_ren.t 25)
     have hM:=grownCap_le_maxLen w (0+n) 0 (Tryz.grow162_ren.t 25) (by unfold maxLen;omega)
     refine⟨rfl,.inr ⟨_,_,_,rfl,fN _,heap_alloc_new w.drew _,fO _,hM,?_,by simp⟩⟩
     simp only [Nat.zero_add] at hG hM ⊢
     generalize grownCap w n 0 (Tryz.grow162_ren.t 25)=G at *
     simp only [Array.size_append,List.size_toArray,size_zeroCells,fp.cells,List.length_nil]
     simp
     omega
   · subst hw
     exact((fM _ _).drew).alloc (fN _) _
theorem zfo {α:Type} [Inhabited α] [DecidableEq α] (d:Array α)(j:Nat):fY d j=true↔j=0∨d[j]!≠d[j-1]!:=by
 unfold fY
 simp
theorem dF {α:Type} [Inhabited α] [DecidableEq α] (le lt:α→α→Prop)(hlt:∀ a b,le a b→a≠b→lt a b)(htr:∀ a b c,le a b→lt b c→lt a c)(d:Array α)(hs:∀ i j,i<j→j<d.size→le d[i]! d[j]!) :
 ∀ m,m≤d.size→(fU d m).Pairwise lt∧(∀ x,x∈fU d m↔∃ j,j<m∧d[j]! =x)∧(∀ x∈fU d m,0<m→(x=d[m-1]!∨lt x d[m-1]!))
 | 0,_=>⟨by simp [fU],by simp [fU],by simp [fU]⟩
 | m+1,hm=>by
   obtain⟨h1,h2,h3⟩:=dF le lt hlt htr d hs m (by omega)
   rw [Lib.compactUpTo_succ]
   by_cases hk:fY d m=true
   · rw [if_pos hk]
     have hk':=(zfo d m).1 hk
     have hnew:∀ x∈fU d m,lt x d[m]!:=fun x hx=>by
      rcases fP m with h0|h0
      · subst h0
        simp [fU] at hx
      · have hne:d[m]!≠d[m-1]!:=by
         rcases hk' with h|h
         · omega
         · exact h
        have hl:=hlt _ _ (hs (m-1) m (by omega) (by omega)) (fun e=>hne e.symm)
        rcases h3 x hx h0 with rfl|h
        · exact hl
        · obtain⟨j,hj,rfl⟩:=(h2 x).1 hx
          by_cases hjm:j=m-1
          · rw [hjm];exact hl
          · exact htr _ _ _ (hs j (m-1) (by omega) (by omega)) hl
     refine⟨List.pairwise_append.2 ⟨h1,List.pairwise_singleton _ _,fun a ha b hb=>?_⟩,fun x=>?_,fun x hx _=>?_⟩
     · obtain rfl:b=d[m]!:=by simpa using hb
       exact hnew a ha
     · rw [fK,h2]
       constructor
       · rintro (⟨j,hj,rfl⟩|hx)
         · exact⟨j,by omega,rfl⟩
         · exact⟨m,by omega,(List.mem_singleton.1 hx).symm⟩
       · rintro ⟨j,hj,rfl⟩
         by_cases hjm:j=m
         · right;rw [hjm];simp
         · left;exact⟨j,by omega,rfl⟩
     · simp only [fQ]
       rcases fK.1 hx with hx|hx
       · exact .inr (hnew x hx)
       · exact .inl (by simpa using hx)
   · rw [if_neg hk,List.append_nil]
     have hk':¬ (m=0∨d[m]!≠d[m-1]!):=fun h=>hk ((zfo d m).2 h)
     have hm0:m≠0:=fun e=>hk' (.inl e)
     have heq:d[m]! =d[m-1]!:=Classical.byContradiction fun e=>hk' (.inr e)
     refine⟨h1,fun x=>?_,fun x hx _=>?_⟩
     · rw [h2]
       constructor
       · rintro ⟨j,hj,rfl⟩;exact⟨j,by omega,rfl⟩
       · rintro ⟨j,hj,rfl⟩
         by_cases hjm:j=m
         · exact⟨m-1,by omega,by rw [hjm];exact heq.symm⟩
         · exact⟨j,by omega,rfl⟩
     · simp only [fQ]
       rw [heq]
       exact h3 x hx (by omega)
theorem zao {α:Type} [Inhabited α] [DecidableEq α] (le lt:α→α→Prop)(hlt:∀ a b,le a b→a≠b→lt a b)(htr:∀ a b c,le a b→lt b c→lt a c)(zs:List α)(hs:zs.Pairwise le):(fV zs).Pairwise lt∧∀ x,x∈fV zs↔x∈zs:=by
 have h:=dF le lt hlt htr zs.toArray (fun i j hij hj=>by
  have hj':j<zs.length:=by simpa using hj
  rw [getElem!_pos zs.toArray i (by simp;omega),getElem!_pos zs.toArray j hj]
  simpa using List.pairwise_iff_getElem.1 hs i j (by omega) hj' hij) zs.length (by simp)
 refine⟨h.1,fun x=>?_⟩
 rw [show fV zs=fU zs.toArray zs.length from rfl,h.2.1]
 constructor
 · rintro ⟨j,hj,rfl⟩
   rw [getElem!_pos zs.toArray j (by simpa using hj)]
   simp
 · intro hx
   obtain⟨j,hj,rfl⟩:=List.getElem_of_mem hx
   exact⟨j,hj,by rw [getElem!_pos zs.toArray j (by simpa using hj)];simp⟩
theorem zcY {α:Type} (lt:α→α→Prop)(hir:∀ a,¬ lt a a)(hasy:∀ a b,lt a b→lt b a→False):∀ (xs ys:List α),xs.Pairwise lt→ys.Pairwise lt→(∀ x,x∈xs↔x∈ys)→xs=ys
 | [],[],_,_,_=>rfl
 | [],y::ys,_,_,h=>absurd ((h y).2 (by simp)) (by simp)
 | x::xs,[],_,_,h=>absurd ((h x).1 (by simp)) (by simp)
 | x::xs,y::ys,hx,hy,h=>by
   rw [List.pairwise_cons] at hx hy
   have hxy:x=y:=by
    rcases fB.1 ((h x).1 (by simp)) with e|e
    · exact e
    · rcases fB.1 ((h y).2 (by simp)) with e'|e'
      · exact e'.symm
      · exact(hasy _ _ (hy.1 x e) (hx.1 y e')).elim
   subst hxy
   rw [zcY lt hir hasy xs ys hx.2 hy.2 fun z=>?_]
   constructor
   · intro hz
     rcases fB.1 ((h z).1 (fJ _ hz)) with e|e
     · subst e;exact(hir _ (hx.1 z hz)).elim
     · exact e
   · intro hz
     rcases fB.1 ((h z).2 (fJ _ hz)) with e|e
     · subst e;exact(hir _ (hy.1 z hz)).elim
     · exact e
theorem zfc {X:fm} {base T k n:Nat} {v:fp} {xs:List fp} (h:X.ownsRow base T k v n xs)(os:Array Obj):(Sort.grow X os).ownsRow base T k v n xs:=by
 refine⟨h.1,?_⟩
 rcases h.2 with h0|⟨g,cap,cur,h1,h2,h3,h4⟩
 · exact .inl h0
 · exact .inr ⟨g,cap,cur,h1,h2,by rw [Sort.heap_grow_old _ _ (Array.getElem?_eq_some_iff.1 h3).1];exact h3,h4⟩
theorem zdZ {B:Nat} {W X:fm} (h:Below B W X)(hB:B≤X.heap.size)(os:Array Obj):Below B W (Sort.grow X os) :=
 ⟨h.os,h.tape,h.output,by have:=h.size;simp;omega,fun k hk=>by rw [Sort.heap_grow_old _ _ (Nat.lt_of_lt_of_le hk hB)];exact h.block k hk⟩
def eG (ss:List (List UInt8)):List (List UInt8):=ss.mergeSort fun x y=>decide (x≤y)
def bo (zs:List Int):List Int:=zs.mergeSort fun x y=>decide (x≤y)
def zjZ {α:Type} (T:Nat)(enc:α→fp)(base:Nat)(v:fp)(zs:List α)(w:fm)(e:Ending)(r:fp)(w':fm):Prop:=e=.returned r∧w'.ownsRow base T 1 v zs.length (zs.map enc)∧Below base w w'
theorem zd8 (base:Nat)(v:fp)(ss:List (List UInt8))(w:fm)(hown:w.ownsRow base 9 1 v ss.length (ss.map encStr))(hl:ss.length≤8000000)(hb:base≤w.heap.size) :
 fu Tryz.prog 91 #[v] w fun e w'=>zjZ 9 encStr base v (eG ss) w e (.tuple #[]) w':=by
 have hlen:(eG ss).length=ss.length:=fI ..
 by_cases hv:v=.slice none 0 0
 · subst hv
   have h0:ss=[]:=by
    rcases hown.2 with⟨_,h⟩|⟨_,_,_,h,_⟩
    · exact fC h
    · cases h
   subst h0
   exact(Tryz.slices_Sort_string_none none 0 w).mono fun e w' ⟨he,hw⟩=>⟨he,by subst hw;simpa [eG] using hown,hw▸fM _ _⟩
 · obtain⟨g,cap,rfl,hbg,hgl,_,_,_,hH⟩:=Lib.holds_of_ownsRow hown hv
   refine(Tryz.slices_Sort_string g 0 cap ss w hH hgl (by omega)).mono fun e w' ⟨he,n,os,hw⟩=>?_
   subst hw
   have h1:=Lib.ownsRow_putRow (q:=n) (ys:=eG ss) hown hlen (fN _)
   rw [fH (by omega)] at h1
   exact⟨he,by rw [hlen];exact zfc h1 os,zdZ (Lib.below_putRow (fM _ _) hbg) (by simpa using hb) os⟩
theorem dY (base:Nat)(v:fp)(ss:List Int)(w:fm)(hown:w.ownsRow base 2 1 v ss.length (ss.map (fT .i64)))(hl:ss.length≤8000000)(hb:base≤w.heap.size) :
 fu Tryz.prog 94 #[v] w fun e w'=>zjZ 2 (fT .i64) base v (bo ss) w e (.tuple #[]) w':=by
 have hlen:(bo ss).length=ss.length:=fI ..
 by_cases hv:v=.slice none 0 0
 · subst hv
   have h0:ss=[]:=by
    rcases hown.2 with⟨_,h⟩|⟨_,_,_,h,_⟩
    · exact fC h
    · cases h
   subst h0
   exact(Tryz.slices_Sort_int_none none 0 w).mono fun e w' ⟨he,hw⟩=>⟨he,by subst hw;simpa [bo] using hown,hw▸fM _ _⟩
 · obtain⟨g,cap,rfl,hbg,hgl,_,_,_,hH⟩:=Lib.holds_of_ownsRow hown hv
   refine(Tryz.slices_Sort_int g 0 cap ss w hH hgl (by omega)).mono fun e w' ⟨he,n,os,hw⟩=>?_
   subst hw
   have h1:=Lib.ownsRow_putRow (q:=n) (ys:=bo ss) hown hlen (fN _)
   rw [fH (by omega)] at h1
   exact⟨he,by rw [hlen];exact zfc h1 os,zdZ (Lib.below_putRow (fM _ _) hbg) (by simpa using hb) os⟩
def zj0 {α:Type} (T:Nat)(enc:α→fp)(base:Nat)(zs:List α)(w:fm)(e:Ending)(w':fm):Prop:=∃ v,e=.returned v∧w'.ownsRow base T 1 v zs.length (zs.map enc)∧Below base w w'
theorem zb6 (base:Nat)(v:fp)(ss:List (List UInt8))(w:fm)(hown:w.ownsRow base 9 1 v ss.length (ss.map encStr))(hl:ss.length≤8000000) :
 fu Tryz.prog 92 #[v] w (zj0 9 encStr base (fV ss) w):=by
 by_cases hv:v=.slice none 0 0
 · subst hv
   have h0:ss=[]:=by
    rcases hown.2 with⟨_,h⟩|⟨_,_,_,h,_⟩
    · exact fC h
    · cases h
   subst h0
   exact(Tryz.slices_Compact_string_empty none 0 w).mono fun e w' ⟨he,hw⟩=>⟨_,he,by subst hw;simpa [fV,fU] using hown,hw▸fM _ _⟩
 · obtain⟨g,cap,rfl,hbg,hgl,hnc,_,_,hH⟩:=Lib.holds_of_ownsRow hown hv
   have hle:=fX ss
   refine(Tryz.slices_Compact_string g 0 cap ss w hH (by omega) hnc).mono fun e w' ⟨he,q,hw⟩=>?_
   subst hw
   have h1:=Lib.ownsRow_putRow (q:=q) (k:=(fV ss).length) (ys:=fV ss++fL (ss.length-(fV ss).length) []) hown (by simp;omega) hle
   rw [fF (fN _),fE] at h1
   exact⟨_,he,h1,Lib.below_putRow (fM _ _) hbg⟩
theorem eE (base:Nat)(v:fp)(ss:List Int)(w:fm)(hown:w.ownsRow base 2 1 v ss.length (ss.map (fT .i64)))(hl:ss.length≤8000000) :
 fu Tryz.prog 95 #[v] w (zj0 2 (fT .i64) base (fV ss) w):=by
 by_cases hv:v=.slice none 0 0
 · subst hv
   have h0:ss=[]:=by
    rcases hown.2 with⟨_,h⟩|⟨_,_,_,h,_⟩
    · exact fC h
    · cases h
   subst h0
   exact(Tryz.slices_Compact_int_empty none 0 w).mono fun e w' ⟨he,hw⟩=>⟨_,he,by subst hw;simpa [fV,fU] using hown,hw▸fM _ _⟩
 · obtain⟨g,cap,rfl,hbg,hgl,hnc,_,_,hH⟩:=Lib.holds_of_ownsRow hown hv
   have hle:=fX ss
   refine(Tryz.slices_Compact_int g 0 cap ss w hH (by omega) hnc).mono fun e w' ⟨he,q,hw⟩=>?_
   subst hw
   have h1:=Lib.ownsRow_putRow (q:=q) (k:=(fV ss).length) (ys:=fV ss++fL (ss.length-(fV ss).length) 0) hown (by simp;omega) hle
   rw [fF (fN _),fE] at h1
   exact⟨_,he,h1,Lib.below_putRow (fM _ _) hbg⟩
theorem Tryz.info9:(Tryz.prog.info? 9).map (fun i=>(i.zero,i.size,i.bytes))=some (some (.string ⟨#[]⟩),1,16):=by kernel_rfl
theorem Tryz.info2:(Tryz.prog.info? 2).map (fun i=>(i.zero,i.size,i.bytes))=some (some (.int .i64 0),1,8):=by kernel_rfl
theorem zgc (s:ByteArray):encStr s.data.toList=.string s:=by simp [encStr]
def dH {α β:Type} (K:Nat)(enc:β→fp)(key:α→β)(zs:List α)(W:fm)(k:Nat)(v:fp)(wr:fm):Prop :=
 wr.ownsRow W.heap.size K 1 v k (((zs.take k).map key).map enc)∧Below W.heap.size W wr
theorem dH.step {α β:Type} {K:Nat} {enc:β→fp} {key:α→β} {zs:List α} {W w1 w2:fm} {k:Nat} {v v':fp} {x:α} {cs:Array fp} (hx:zs[k]? =some x)(hb:Below W.heap.size W w1)(ho:w1.ownsRow W.heap.size K 1 v k (((zs.take k).map key).map enc))(hcs:cs.toList=[enc (key x)])
 (hown:w2.ownsRow W.heap.size K 1 v' (k+1) (((zs.take k).map key).map enc++cs.toList)) (hg:(w1.alloc (.cells cs K)).grownBy w2 v.ownBlock):dH K enc key zs W (k+1) v' w2:=by
 refine⟨?_,(hb.alloc hb.size _).grown hg (by have:=hb.size;simp;omega) (fun j hj=>(ho.lt j hj).1)⟩
 rw [List.take_add_one,hx]
 simp only [Option.toList_some,List.map_append,List.map_cons,List.map_nil]
 rw [hcs] at hown
 exact hown
theorem dH.all {α β:Type} {K:Nat} {enc:β→fp} {key:α→β} {zs:List α} {W wr:fm} {v:fp} (h:dH K enc key zs W zs.length v wr):wr.ownsRow W.heap.size K 1 v (zs.map key).length ((zs.map key).map enc):=by
 have:=h.1
 rw [fE] at this
 simpa using this
end Go.Proofs.YtnlnmbcaongehaaGreatDoor
