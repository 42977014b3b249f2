/- Documents in memory, and the contract of document.anchored: the first error of the numbers of a comment. Copies: slices.Clone at rows, runs, regions, comments and events. -/
import Derived.Shelf.Spec.SlicesGrow
import Derived.Shelf.Strings.OnBuilder
import Derived.Shelf.Strconv.Itoa4
import Derived.Shelf.Slices.Turned
import Derived.Shelf.SortM.Plain
import Derived.Shelf.SortM.SortNone
import Derived.Lib.OwnBridge
import Derived.Test.YtnlnmbcaongehaaGreatDoorN02
set_option linter.unusedVariables false
set_option linter.unusedSimpArgs false
set_option maxRecDepth 100000
set_option maxHeartbeats 12800000
open Go.Lib renaming hid→h_
open Go renaming World→Su,rounds_succ→Sv,info_parts→Sw,Value→Sx,Calls→Sy,wp_loop_rounds→Sz,grownCap_le_maxLen→SA,size_zeroCells→SB,heap_alloc_new→SC,grownCap_ge→SD,heap_alloc_last→SE
open List renaming mem_cons→SF,eq_nil_of_length_eq_zero→SG,not_mem_nil→SH,size_toArray→SI,take_append_of_le_length→SJ,length_nil→SK,getElem?_eq_getElem→SL,take_of_length_le→SM,length_mergeSort→SN,mem_cons_of_mem→SO,take_length→SQ,mem_append→SR,replicate→SS
open Go.RowKit.Below renaming refl→SU
open Nat renaming le_refl→SV,zero_le→SW,eq_zero_or_pos→SX,zero_add→SY,add_sub_cancel→SZ,add_zero→S5
open Go.Proofs.Tryz renaming prog→S6,underlying9→S7,zeroValue9→S8,underlying4→S9,underlying3→S_,underlying0→Ta,zeroValue4→Tb,zeroValue3→Tc,zeroValue0→Td,underlying25→Te,underlying24→Tf,underlying23→Tg,sizeOf9→Th,isAgg9→Ti,sizeOf4→Tj,sizeOf3→Tk,sizeOf0→Tl,underlying20→Tm,isAgg4→Tn,isAgg3→To,isAgg0→Tp,zeroValue20→Tq,sizeOf20→Tr,underlying55→Ts,isAgg20→Tt,zeroValue55→Tu,underlying5→Tv,zeroValue5→Tw,sizeOf55→Tx,sizeOf5→Ty,isAgg55→Tz,isAgg5→TA,underlying342→TC,underlying341→TD,underlying329→TE,underlying325→TF,underlying290→TG,underlying284→TI,underlying283→TJ,underlying259→TK,underlying238→TL,underlying156→TM,zeroValue342→TN,zeroValue341→TO,zeroValue329→TP,zeroValue325→TQ,zeroValue290→TR,zeroValue284→TS,zeroValue283→TT,zeroValue259→TU,zeroValue238→TV,zeroValue156→TW,underlying85→TX,underlying76→TY,underlying48→TZ,zeroValue85→T0,sizeOf342→T1,sizeOf341→T2,sizeOf329→T3,sizeOf325→T4,sizeOf290→T5,sizeOf284→T6,sizeOf283→T7,sizeOf259→T8,sizeOf238→T9,sizeOf156→T_,sizeOf85→Ua,isAgg342→Ub,isAgg341→Uc,isAgg329→Ud,isAgg325→Ue,isAgg290→Uf,isAgg284→Ug,isAgg283→Uh,isAgg259→Ui,isAgg238→Uj,isAgg156→Uk,isAgg85→Ul,func267→Um,func266→Un,func229→Uo,func228→Up,func164→Uq
open Go.Value renaming ownBlock→Ur,int→Us,cells→Ut
open Go.Lib renaming compactUpTo→Uu,compact→Uv,run_eql_slice_nil→Uw,keeps→Ux
open Go.World renaming ownsRow_nil→Uy,ownsRow_made→Uz
open Go.Shelf renaming Ren→UA
open Go.Proofs.Lays8 renaming n4→UB
open Go.Proofs.Any8 renaming slices_Grow_room→UC,slices_Grow_grow→UD
open Array renaming size_append→UE
namespace Go.Proofs.YtnlnmbcaongehaaGreatDoor
open Go.RowKit
structure Cm where
 id:Int
 ev:Int
 frm:Int
 til:Int
 author:ByteArray
 text:ByteArray
 done:Bool
 lost:Bool
def Cm.enc (c:Cm):List Sx:=[.int .i64 c.id,.int .i64 c.ev,.int .i64 c.frm,.int .i64 c.til,.string c.author,.string c.text,.bool c.done,.bool c.lost]
def Cm.fits (c:Cm):Prop:=i64 c.id∧i64 c.ev∧i64 c.frm∧i64 c.til∧c.author.size≤4000000∧c.text.size≤4000000
structure Doc where
 title:ByteArray
 lang:ByteArray
 rate:Int
 drop:Bool
 last:Int
 ra:Option Addr
 rc:Nat
 rG:List Reg
 ea:Option Addr
 ec:Nat
 eV:List Ev
 ca:Option Addr
 cc:Nat
 cM:List Cm
def Doc.enc (d:Doc):List Sx:=[.string d.title,.string d.lang,.int .u8 d.rate,.bool d.drop,.int .i64 d.last,.slice d.ra d.rG.length d.rc,.slice d.ea d.eV.length d.ec,.slice d.ca d.cM.length d.cc]
def kJ (w:Su)(a:Option Addr)(xs:List Ev):Prop:=af 7 Ev.enc Ev.lies w a xs
theorem kJ.later {w w':Su} {a:Option Addr} {xs:List Ev} (h:kJ w a xs)(hb:Below w.heap.size w w'):kJ w' a xs:=af.keeps Ev.keeps w w' a xs hb h
def J8 (w:Su)(a:Option Addr)(xs:List Cm):Prop:=af 8 Cm.enc Flat w a xs
theorem J8.later {w w':Su} {a:Option Addr} {xs:List Cm} (h:J8 w a xs)(hb:Below w.heap.size w w'):J8 w' a xs:=af.keeps Flat.keeps w w' a xs hb h
def Doc.lies (w:Su)(d:Doc):Prop:=Regs w d.ra d.rG∧kJ w d.ea d.eV∧J8 w d.ca d.cM
theorem Doc.later {w w':Su} {d:Doc} (h:d.lies w)(hb:Below w.heap.size w w'):d.lies w':=⟨h.1.later hb,h.2.1.later hb,h.2.2.later hb⟩
def Doc.fits (d:Doc):Prop:=d.title.size≤4000000∧d.lang.size≤4000000∧0≤d.rate∧d.rate≤255∧i64 d.last∧(∀ r∈d.rG,r.fits)∧d.rG.length≤4000000∧(∀ x∈d.eV,x.fits)∧d.eV.length≤4000000∧(∀ c∈d.cM,c.fits)∧d.cM.length≤4000000
def ct (last:Int)(f:Int→Option Nat)(eV:List Ev)(c:Cm):Int :=
 if c.ev<1∨last<c.ev then 2 else if c.lost then (if c.frm≠0∨c.til≠0 then 2 else 0) else match f c.ev with
  | none=>6
  | some i=>if c.frm<0∨c.til≤c.frm∨m_ ((eV[i]?.map Ev.rows).getD [])<c.til then 2 else 0
theorem EF (last:Int)(f:Int→Option Nat)(eV:List Ev)(c:Cm)(hf:∀ z i,f z=some i→i<eV.length) :
 (ct last f eV c=2∧c.ev<1)∨(ct last f eV c=2∧1≤c.ev∧last<c.ev)∨(1≤c.ev∧c.ev≤last ∧
  ((c.lost=true∧((ct last f eV c=2∧c.frm≠0)∨(ct last f eV c=2∧c.frm=0∧c.til≠0)∨(ct last f eV c=0∧c.frm=0∧c.til=0))) ∨
   (c.lost=false∧((f c.ev=none∧ct last f eV c=6)∨∃ i x,f c.ev=some i∧i<eV.length∧eV[i]? =some x ∧
    ((ct last f eV c=2∧c.frm<0)∨(ct last f eV c=2∧0≤c.frm∧c.til≤c.frm)∨(0≤c.frm∧c.frm<c.til∧((ct last f eV c=2∧m_ x.rows<c.til)∨(ct last f eV c=0∧c.til≤m_ x.rows)))))))):=by
 unfold ct
 by_cases h1:c.ev<1
 · left;simp [h1]
 right
 by_cases h2:last<c.ev
 · left;simp [h1,h2];omega
 right
 refine⟨by omega,by omega,?_⟩
 rw [if_neg (by omega)]
 cases hl:c.lost
 · right
   refine⟨rfl,?_⟩
   cases hq:f c.ev with
   | none=>left;simp
   | some i =>
     right
     have hi:=hf _ _ hq
     refine⟨i,eV[i],rfl,hi,SL hi,?_⟩
     simp only [SL hi,Option.map_some,Option.getD_some,Bool.false_eq_true,if_false]
     by_cases h3:c.frm<0
     · left;simp [h3]
     right
     by_cases h4:c.til≤c.frm
     · left;simp [h4];omega
     right
     refine⟨by omega,by omega,?_⟩
     by_cases h5:m_ eV[i].rows<c.til
     · left;simp [h5]
     · right;rw [if_neg (by omega)];exact⟨rfl,by omega⟩
 · left
   refine⟨rfl,?_⟩
   simp only [if_true]
   by_cases h3:c.frm=0
   · by_cases h4:c.til=0
     · right;right;simp [h3,h4]
     · right;left;simp [h3,h4]
   · left;simp [h3]
theorem zM {W w':Su} {B b o:Nat} {v:Sx} (h:W.cell? ⟨b,o,none⟩=some v)(hB:b<B)(hb:Below B W w'):w'.cell? ⟨b,o,none⟩=some v :=
 (hb.cell (p:=⟨b,o,none⟩) hB).trans h
theorem aT (w:Su)(cs cs':Array Sx)(t t':TypeId)(j:Nat)(v:Sx)(h:cs[j]? =some v)(w':Su)(hb:Below (w.heap.size+2) ((w.alloc (.cells cs t)).alloc (.cells cs' t')) w'):w'.cell? ⟨w.heap.size,j,none⟩=some v:=by
 refine zM ?_ (by omega) hb
 rw [Su.cell?_alloc_lt _ _ _ (by simp),cell_of_row _ _ j cs t (0,0) (SE w _),h]
theorem aS (w:Su)(cs cs':Array Sx)(t t':TypeId)(j:Nat)(v:Sx)(h:cs'[j]? =some v)(w':Su)(hb:Below (w.heap.size+2) ((w.alloc (.cells cs t)).alloc (.cells cs' t')) w'):w'.cell? ⟨w.heap.size+1,j,none⟩=some v:=by
 refine zM ?_ (by omega) hb
 have:=SE (w.alloc (.cells cs t)) (.cells cs' t')
 rw [Su.size_alloc] at this
 rw [cell_of_row _ _ j cs' t' (0,0) this,h]
theorem j4 {w w':Su} {o o':Obj} (hb:Below (w.heap.size+2) ((w.alloc o).alloc o') w'):Below w.heap.size w w' :=
 (((SU _ _).alloc (SV _) _).alloc (by simp) _).trans (hb.mono (by omega))
theorem uN (d:Doc)(c:Cm)(b n:Nat)(f:Int→Option Nat)(w:Su)(hE:Env w)(hd:kJ w d.ea d.eV)(bn:∀ x∈d.eV,x.fits)(hle:d.eV.length≤4000000)(hc:c.fits)(hM:IMap w b n f)(hf:∀ z i,f z=some i→i<d.eV.length) :
 Sy S6 161 #[.agg d.enc.toArray,.agg c.enc.toArray,.map (some b)] w fun e w'=>e=.returned (.int .i64 (ct d.last f d.eV c))∧Below w.heap.size w w':=by
 have hcs:=EF d.last f d.eV c hf
 generalize ct d.last f d.eV c=G at *
 obtain⟨title,lang,rate,drop,last,ra,rc,rG,ea,ec,eV,ca,cc,cM⟩:=d
 obtain⟨_,hi2,hi3,hi4,_,_⟩:=hc
 obtain⟨id,ev,frm,til,author,text,done,lost⟩:=c
 simp only at hcs hi2 hi3 hi4 hd bn hf hle
 simp only [Doc.enc,Cm.enc]
 generalize hds:#[Sx.string title,.string lang,.int .u8 rate,.bool drop,.int .i64 last,.slice ra rG.length rc,.slice ea eV.length ec,.slice ca cM.length cc]=ds
 generalize mV:#[Us .i64 id,.int .i64 ev,.int .i64 frm,.int .i64 til,.string author,.string text,.bool done,.bool lost]=qs
 have f4:=aT w ds qs 27 52 4 (.int .i64 last) (by rw [←hds];rfl)
 have f6:=aT w ds qs 27 52 6 (.slice ea eV.length ec) (by rw [←hds];rfl)
 have g1:=aS w ds qs 27 52 1 (.int .i64 ev) (by rw [←mV];rfl)
 have g2:=aS w ds qs 27 52 2 (.int .i64 frm) (by rw [←mV];rfl)
 have g3:=aS w ds qs 27 52 3 (.int .i64 til) (by rw [←mV];rfl)
 have g7:=aS w ds qs 27 52 7 (.bool lost) (by rw [←mV];rfl)
 have HB:=h_ (fun(w1:Su) (h:Below (w.heap.size+2) ((w.alloc (.cells ds 27)).alloc (.cells qs 52)) w1)=>j4 h)
 have hb0:Below (w.heap.size+2) ((w.alloc (.cells ds 27)).alloc (.cells qs 52)) ((w.alloc (.cells ds 27)).alloc (.cells qs 52)):=SU _ _
 have hsz:((w.alloc (.cells ds 27)).alloc (.cells qs 52)).heap.size=w.heap.size+2:=by simp
 have iN:=h_ ((hM.below (HB.out _ hb0) hM.lt).look hi2)
 generalize hW0:(w.alloc (.cells ds 27)).alloc (.cells qs 52)=W0 at *
 have HW0:=h_ hW0
 have bu:=h_ hsz
 have HD:=h_ hd
 have Ae:=h_ bn
 clear hW0 hsz hd bn hf hM
 have hlk:=iN.out
 rw [←HW0.out] at hlk
 clear iN
 go_enter Tryz.func161,Tryz.ntmps161
 subst hds
 subst mV
 rcases hcs with⟨rfl,h1⟩|⟨rfl,h1,h2⟩|⟨h1,h2,⟨rfl,⟨rfl,h3⟩|⟨rfl,rfl,h3⟩|⟨rfl,rfl,rfl⟩⟩|⟨rfl,⟨hq,rfl⟩|⟨i,x,hq,hi,hx,hcs⟩⟩⟩
 · clear hlk
   go_wp2_with fail
   rw [HW0.out]
   go_ret
   exact⟨rfl,HB.out _ hb0⟩
 · clear hlk
   go_wp2_with fail
   rw [HW0.out]
   go_ret
   exact⟨rfl,HB.out _ hb0⟩
 · have BV:(frm != 0)=true:=by simpa using h3
   clear hlk h3
   go_wp2_with fail
   rw [HW0.out]
   go_ret
   exact⟨rfl,HB.out _ hb0⟩
 · have BV:(til != 0)=true:=by simpa using h3
   clear hlk h3
   go_wp2_with fail
   rw [HW0.out]
   go_ret
   exact⟨rfl,HB.out _ hb0⟩
 · clear hlk
   go_wp2_with fail
   rw [HW0.out]
   go_ret
   exact⟨rfl,HB.out _ hb0⟩
 · rw [hq] at hlk
   simp only [Option.isSome_none,Option.getD_none] at hlk
   have iN:=h_ hlk
   clear hq hlk
   go_wp2_with (at_lookup;refine aa _ rfl _ _ _ _ rfl _ _ _ rfl rfl iN.out ?_)
   rw [HW0.out]
   go_ret
   exact⟨rfl,HB.out _ hb0⟩
 · rw [hq] at hlk
   simp only [Option.isSome_some,Option.getD_some] at hlk
   have iN:=h_ hlk
   clear hlk
   obtain⟨bb,off,x',rfl,hbl,hx',hcx,hok0⟩:=HD.out.at_ hi
   have hok:=Ev.keeps _ _ _ (HB.out _ hb0) hok0
   obtain rfl:x'=x:=Option.some.inj (hx'.symm.trans hx)
   have hfx:=Ae.out x' (List.mem_of_getElem? hx)
   have Gn:Below (w.heap.size+2) W0 W0.drew:=hb0.drew
   have HLen:=h_ (BZ x' W0.drew (hE.below (HB.out _ Gn) (SV _)) (Ev.keeps _ _ _ ((SU W0.heap.size W0).drew) hok) hfx)
   have hcd:∀ j v,x'.enc[j]? =some v→∀ w1,Below (w.heap.size+2) W0 w1→w1.cell? ⟨bb,off+i*7+j,none⟩=some v:=fun j v hv w1 h=>by
    rw [(HB.out _ h).cell (p:=⟨bb,off+i*7+j,none⟩) hbl]
    exact hcx j v hv
   clear hq hx hx' hcx hok hok0 hfx
   obtain⟨xid,xin,xout,xreg,xkind,xsp,xa,xc,xrows⟩:=x'
   have xF:=h_ hcd
   simp only [Ev.enc] at HLen hcs xF
   generalize m_ xrows=L at *
   clear hcd
   rcases hcs with⟨rfl,h3⟩|⟨rfl,h3,h4⟩|⟨h3,h4,⟨rfl,h5⟩|⟨rfl,h5⟩⟩
   · have BV:decide (frm<0)=true:=by simp;omega
     clear HLen hbl
     go_wp2_with (at_lookup;refine aa _ rfl _ _ _ _ rfl _ _ _ rfl rfl iN.out ?_)
     rw [HW0.out]
     go_quiet (fail)
     go_wp2_with fail
     go_ret
     exact⟨rfl,HB.out _ (below_drewN hb0 _)⟩
   · have BV:decide (frm<0)=false:=by simp;omega
     have h4d:decide (til≤frm)=true:=by simp;omega
     clear HLen hbl
     go_wp2_with (at_lookup;refine aa _ rfl _ _ _ _ rfl _ _ _ rfl rfl iN.out ?_)
     rw [HW0.out]
     go_quiet (fail)
     go_wp2_with fail
     go_ret
     exact⟨rfl,HB.out _ (below_drewN hb0 _)⟩
   · have BV:decide (frm<0)=false:=by simp;omega
     have h4d:decide (til≤frm)=false:=by simp;omega
     have h5d:decide (L<til)=true:=by simp;omega
     go_wp2_with (at_lookup;refine aa _ rfl _ _ _ _ rfl _ _ _ rfl rfl iN.out ?_)
     rw [HW0.out]
     have d0:=xF.out 0 _ rfl;have d1:=xF.out 1 _ rfl;have d2:=xF.out 2 _ rfl;have d3:=xF.out 3 _ rfl;have d4:=xF.out 4 _ rfl;have d5:=xF.out 5 _ rfl;have d6:=xF.out 6 _ rfl
     simp only [S5] at d0
     clear xF iN HD Ae hE
     go_region_with (go_at_call 218;refine HLen.out.mono ?_;rintro e w1 ⟨rfl,hb1⟩;replace hb1:Below (w.heap.size+2) W0 w1:=Gn.trans (hb1.mono (by have:=Gn.size;rw [bu.out] at this;exact this)))
     all_goals
      go_wp2_with fail
      go_ret
      exact⟨rfl,HB.out _ hb1⟩
   · have BV:decide (frm<0)=false:=by simp;omega
     have h4d:decide (til≤frm)=false:=by simp;omega
     have h5d:decide (L<til)=false:=by simp;omega
     go_wp2_with (at_lookup;refine aa _ rfl _ _ _ _ rfl _ _ _ rfl rfl iN.out ?_)
     rw [HW0.out]
     have d0:=xF.out 0 _ rfl;have d1:=xF.out 1 _ rfl;have d2:=xF.out 2 _ rfl;have d3:=xF.out 3 _ rfl;have d4:=xF.out 4 _ rfl;have d5:=xF.out 5 _ rfl;have d6:=xF.out 6 _ rfl
     simp only [S5] at d0
     clear xF iN HD Ae hE
     go_region_with (go_at_call 218;refine HLen.out.mono ?_;rintro e w1 ⟨rfl,hb1⟩;replace hb1:Below (w.heap.size+2) W0 w1:=Gn.trans (hb1.mono (by have:=Gn.size;rw [bu.out] at this;exact this)))
     all_goals
      go_wp2_with fail
      go_ret
      exact⟨rfl,HB.out _ hb1⟩
def aC {α:Type} (T k:Nat)(enc:α→List Sx)(xs:List α)(w:Su)(e:Ending)(w':Su):Prop:=∃ v,e=.returned v∧w'.ownsRow w.heap.size T k v xs.length (xs.flatMap enc)∧Below w.heap.size w w'
theorem Tryz.info78:(S6.info? 78).map (fun i=>(i.zero,i.size,i.bytes))=some (some (.agg #[.slice none 0 0]),1,24):=by kernel_rfl
theorem Row.one:∀ (x:Row)(v:Sx),v∈x.enc→v.oneCell'=true:=by
 intro x v hv
 simp only [Row.enc,SF,SH,or_false] at hv
 rcases hv with rfl<;>rfl
theorem uE (ad:Addr)(c:Nat)(w:Su):Sy S6 167 #[.slice (some ad) 0 c] w (aC 78 1 Row.enc [] w):=by
 have HE:=h_ (fun(v:Sx) (w':Su) (ho:w'.ownsRow w.heap.size 78 1 v (0+([]:List Row).length) ([]++([]:List Row).flatMap Row.enc)) (hb:Below w.heap.size w w')=>show aC 78 1 Row.enc [] w (.returned v) w' from⟨v,rfl,ho,hb⟩)
 have q22:∀ (w:Su) (a:Option Addr) (n c n' c':Nat),(binOp .eql 48 (.slice a n c) (.slice none n' c')).run S6 w=.ok (.bool a.isNone) w:=fun w a n c n' c'=>Uw w _ _ a n c n' c' TZ
 obtain⟨j0,hj,hy0,hy1,hy2⟩:=Sw Tryz.info78
 have JI:=h_ hj;have J0:=h_ hy0;have J1:=h_ hy1;have J2:=h_ hy2
 generalize aC 78 1 Row.enc [] w=Q at *
 clear hj hy0 hy1 hy2
 go_enter Tryz.func167,Tryz.ntmps167
 go_wp2_with (at_builtin;refine ax (enc:=Row.enc) (Ok:=Flat) _ rfl (.tmp 5) (.tmp 6) 48 rfl w.heap.size 78 j0 _ 1 24 TZ JI.out J0.out J1.out J2.out rfl (by decide) (fun _=>rfl) Row.one _ 0 [] rfl (Uz w #[] 0 (SV _) (SW _) (by simp)) (some ad) c [] rfl (.inl rfl) ?h63 ?hb ?hbase ?_)
 try (case h63=>decide)
 try (case hb=>decide)
 try (case hbase=>simp)
 intro v' w' ho hg _
 have HO:=h_ ho
 have HB:=h_ (show Below w.heap.size w w' from((SU _ _).alloc (SV _) _).grown hg (by simp) (fun j hj=>by simp [Ur] at hj;omega))
 clear ho hg
 go_wp2_with fail
 exact HE.out _ _ HO.out HB.out
theorem uF {Ok:Su→Row→Prop} (a:Option Addr)(cap:Nat)(xs:List Row)(w:Su)(h:af 1 Row.enc Ok w a xs)(hl:xs.length≤4000000):Sy S6 167 #[.slice a xs.length cap] w (aC 78 1 Row.enc xs w):=by
 rcases xs with _|⟨x0,xl⟩
 · cases a with
   | none=>exact(Tryz.slices_Clone_nil_f167 0 cap w).mono fun e w' ⟨he,hw⟩=>⟨_,he,Uy _ _ _ _,hw▸SU _ _⟩
   | some ad=>exact uE ad cap w
 · obtain⟨b,off,x,rfl,_⟩:=h.at_ (show 0<(x0::xl).length by simp)
   obtain⟨j0,hj,hy0,hy1,hy2⟩:=Sw Tryz.info78
   exact(Tryz.slices_Clone_f167 j0 _ 1 24 hj hy0 hy1 hy2 rfl (by decide) (fun w=>by kernel_rfl) b off (x0::xl).length cap ((x0::xl).flatMap Row.enc) w (iW Row.enc 1 (fun _=>rfl) _) (by unfold maxLen;omega) (by omega) (iJ (k:=1) (enc:=Row.enc) (Ok:=Ok) (fun _=>rfl) h) (nB (enc:=Row.enc) Row.one _)).mono fun e w' ⟨v,he,ho,_,hb⟩=>⟨v,he,ho,hb⟩
theorem Tryz.info75:(S6.info? 75).map (fun i=>(i.zero,i.size,i.bytes))=some (some (.agg #[.string ⟨#[]⟩,.int .u8 0,.bool false,.bool false,.string ⟨#[]⟩]),5,40):=by kernel_rfl
theorem Run.one:∀ (x:Run)(v:Sx),v∈x.enc→v.oneCell'=true:=by
 intro x v hv
 simp only [Run.enc,SF,SH,or_false] at hv
 rcases hv with rfl|rfl|rfl|rfl|rfl<;>rfl
theorem uC (ad:Addr)(c:Nat)(w:Su):Sy S6 168 #[.slice (some ad) 0 c] w (aC 75 5 Run.enc [] w):=by
 have HE:=h_ (fun(v:Sx) (w':Su) (ho:w'.ownsRow w.heap.size 75 5 v (0+([]:List Run).length) ([]++([]:List Run).flatMap Run.enc)) (hb:Below w.heap.size w w')=>show aC 75 5 Run.enc [] w (.returned v) w' from⟨v,rfl,ho,hb⟩)
 have q22:∀ (w:Su) (a:Option Addr) (n c n' c':Nat),(binOp .eql 76 (.slice a n c) (.slice none n' c')).run S6 w=.ok (.bool a.isNone) w:=fun w a n c n' c'=>Uw w _ _ a n c n' c' TY
 obtain⟨j0,hj,hy0,hy1,hy2⟩:=Sw Tryz.info75
 have JI:=h_ hj;have J0:=h_ hy0;have J1:=h_ hy1;have J2:=h_ hy2
 generalize aC 75 5 Run.enc [] w=Q at *
 clear hj hy0 hy1 hy2
 go_enter Tryz.func168,Tryz.ntmps168
 go_wp2_with (at_builtin;refine ax (enc:=Run.enc) (Ok:=Flat) _ rfl (.tmp 5) (.tmp 6) 76 rfl w.heap.size 75 j0 _ 5 40 TY JI.out J0.out J1.out J2.out rfl (by decide) (fun _=>rfl) Run.one _ 0 [] rfl (Uz w #[] 0 (SV _) (SW _) (by simp)) (some ad) c [] rfl (.inl rfl) ?h63 ?hb ?hbase ?_)
 try (case h63=>decide)
 try (case hb=>decide)
 try (case hbase=>simp)
 intro v' w' ho hg _
 have HO:=h_ ho
 have HB:=h_ (show Below w.heap.size w w' from((SU _ _).alloc (SV _) _).grown hg (by simp) (fun j hj=>by simp [Ur] at hj;omega))
 clear ho hg
 go_wp2_with fail
 exact HE.out _ _ HO.out HB.out
theorem uD {Ok:Su→Run→Prop} (a:Option Addr)(cap:Nat)(xs:List Run)(w:Su)(h:af 5 Run.enc Ok w a xs)(hl:xs.length≤4000000):Sy S6 168 #[.slice a xs.length cap] w (aC 75 5 Run.enc xs w):=by
 rcases xs with _|⟨x0,xl⟩
 · cases a with
   | none=>exact(Tryz.slices_Clone_nil_f168 0 cap w).mono fun e w' ⟨he,hw⟩=>⟨_,he,Uy _ _ _ _,hw▸SU _ _⟩
   | some ad=>exact uC ad cap w
 · obtain⟨b,off,x,rfl,_⟩:=h.at_ (show 0<(x0::xl).length by simp)
   obtain⟨j0,hj,hy0,hy1,hy2⟩:=Sw Tryz.info75
   exact(Tryz.slices_Clone_f168 j0 _ 5 40 hj hy0 hy1 hy2 rfl (by decide) (fun w=>by kernel_rfl) b off (x0::xl).length cap ((x0::xl).flatMap Run.enc) w (iW Run.enc 5 (fun _=>rfl) _) (by unfold maxLen;omega) (by omega) (iJ (k:=5) (enc:=Run.enc) (Ok:=Ok) (fun _=>rfl) h) (nB (enc:=Run.enc) Run.one _)).mono fun e w' ⟨v,he,ho,_,hb⟩=>⟨v,he,ho,hb⟩
theorem Tryz.info44:(S6.info? 44).map (fun i=>(i.zero,i.size,i.bytes))=some (some (.agg #[.string ⟨#[]⟩,.int .i64 0,.int .i64 0,.int .i64 0,.int .i64 0,.int .u8 0,.bool false]),7,56):=by kernel_rfl
theorem Reg.one:∀ (x:Reg)(v:Sx),v∈x.enc→v.oneCell'=true:=by
 intro x v hv
 simp only [Reg.enc,SF,SH,or_false] at hv
 rcases hv with rfl|rfl|rfl|rfl|rfl|rfl|rfl<;>rfl
theorem uK (ad:Addr)(c:Nat)(w:Su):Sy S6 106 #[.slice (some ad) 0 c] w (aC 44 7 Reg.enc [] w):=by
 have HE:=h_ (fun(v:Sx) (w':Su) (ho:w'.ownsRow w.heap.size 44 7 v (0+([]:List Reg).length) ([]++([]:List Reg).flatMap Reg.enc)) (hb:Below w.heap.size w w')=>show aC 44 7 Reg.enc [] w (.returned v) w' from⟨v,rfl,ho,hb⟩)
 have q22:∀ (w:Su) (a:Option Addr) (n c n' c':Nat),(binOp .eql 23 (.slice a n c) (.slice none n' c')).run S6 w=.ok (.bool a.isNone) w:=fun w a n c n' c'=>Uw w _ _ a n c n' c' Tg
 obtain⟨j0,hj,hy0,hy1,hy2⟩:=Sw Tryz.info44
 have JI:=h_ hj;have J0:=h_ hy0;have J1:=h_ hy1;have J2:=h_ hy2
 generalize aC 44 7 Reg.enc [] w=Q at *
 clear hj hy0 hy1 hy2
 go_enter Tryz.func106,Tryz.ntmps106
 go_wp2_with (at_builtin;refine ax (enc:=Reg.enc) (Ok:=Flat) _ rfl (.tmp 5) (.tmp 6) 23 rfl w.heap.size 44 j0 _ 7 56 Tg JI.out J0.out J1.out J2.out rfl (by decide) (fun _=>rfl) Reg.one _ 0 [] rfl (Uz w #[] 0 (SV _) (SW _) (by simp)) (some ad) c [] rfl (.inl rfl) ?h63 ?hb ?hbase ?_)
 try (case h63=>decide)
 try (case hb=>decide)
 try (case hbase=>simp)
 intro v' w' ho hg _
 have HO:=h_ ho
 have HB:=h_ (show Below w.heap.size w w' from((SU _ _).alloc (SV _) _).grown hg (by simp) (fun j hj=>by simp [Ur] at hj;omega))
 clear ho hg
 go_wp2_with fail
 exact HE.out _ _ HO.out HB.out
theorem uL {Ok:Su→Reg→Prop} (a:Option Addr)(cap:Nat)(xs:List Reg)(w:Su)(h:af 7 Reg.enc Ok w a xs)(hl:xs.length≤4000000):Sy S6 106 #[.slice a xs.length cap] w (aC 44 7 Reg.enc xs w):=by
 rcases xs with _|⟨x0,xl⟩
 · cases a with
   | none=>exact(Tryz.slices_Clone_nil_f106 0 cap w).mono fun e w' ⟨he,hw⟩=>⟨_,he,Uy _ _ _ _,hw▸SU _ _⟩
   | some ad=>exact uK ad cap w
 · obtain⟨b,off,x,rfl,_⟩:=h.at_ (show 0<(x0::xl).length by simp)
   obtain⟨j0,hj,hy0,hy1,hy2⟩:=Sw Tryz.info44
   exact(Tryz.slices_Clone_f106 j0 _ 7 56 hj hy0 hy1 hy2 rfl (by decide) (fun w=>by kernel_rfl) b off (x0::xl).length cap ((x0::xl).flatMap Reg.enc) w (iW Reg.enc 7 (fun _=>rfl) _) (by unfold maxLen;omega) (by omega) (iJ (k:=7) (enc:=Reg.enc) (Ok:=Ok) (fun _=>rfl) h) (nB (enc:=Reg.enc) Reg.one _)).mono fun e w' ⟨v,he,ho,_,hb⟩=>⟨v,he,ho,hb⟩
theorem Tryz.info52:(S6.info? 52).map (fun i=>(i.zero,i.size,i.bytes))=some (some (.agg #[.int .i64 0,.int .i64 0,.int .i64 0,.int .i64 0,.string ⟨#[]⟩,.string ⟨#[]⟩,.bool false,.bool false]),8,72):=by kernel_rfl
theorem Cm.one:∀ (x:Cm)(v:Sx),v∈x.enc→v.oneCell'=true:=by
 intro x v hv
 simp only [Cm.enc,SF,SH,or_false] at hv
 rcases hv with rfl|rfl|rfl|rfl|rfl|rfl|rfl|rfl<;>rfl
theorem uI (ad:Addr)(c:Nat)(w:Su):Sy S6 107 #[.slice (some ad) 0 c] w (aC 52 8 Cm.enc [] w):=by
 have HE:=h_ (fun(v:Sx) (w':Su) (ho:w'.ownsRow w.heap.size 52 8 v (0+([]:List Cm).length) ([]++([]:List Cm).flatMap Cm.enc)) (hb:Below w.heap.size w w')=>show aC 52 8 Cm.enc [] w (.returned v) w' from⟨v,rfl,ho,hb⟩)
 have q22:∀ (w:Su) (a:Option Addr) (n c n' c':Nat),(binOp .eql 25 (.slice a n c) (.slice none n' c')).run S6 w=.ok (.bool a.isNone) w:=fun w a n c n' c'=>Uw w _ _ a n c n' c' Te
 obtain⟨j0,hj,hy0,hy1,hy2⟩:=Sw Tryz.info52
 have JI:=h_ hj;have J0:=h_ hy0;have J1:=h_ hy1;have J2:=h_ hy2
 generalize aC 52 8 Cm.enc [] w=Q at *
 clear hj hy0 hy1 hy2
 go_enter Tryz.func107,Tryz.ntmps107
 go_wp2_with (at_builtin;refine ax (enc:=Cm.enc) (Ok:=Flat) _ rfl (.tmp 5) (.tmp 6) 25 rfl w.heap.size 52 j0 _ 8 72 Te JI.out J0.out J1.out J2.out rfl (by decide) (fun _=>rfl) Cm.one _ 0 [] rfl (Uz w #[] 0 (SV _) (SW _) (by simp)) (some ad) c [] rfl (.inl rfl) ?h63 ?hb ?hbase ?_)
 try (case h63=>decide)
 try (case hb=>decide)
 try (case hbase=>simp)
 intro v' w' ho hg _
 have HO:=h_ ho
 have HB:=h_ (show Below w.heap.size w w' from((SU _ _).alloc (SV _) _).grown hg (by simp) (fun j hj=>by simp [Ur] at hj;omega))
 clear ho hg
 go_wp2_with fail
 exact HE.out _ _ HO.out HB.out
theorem uJ {Ok:Su→Cm→Prop} (a:Option Addr)(cap:Nat)(xs:List Cm)(w:Su)(h:af 8 Cm.enc Ok w a xs)(hl:xs.length≤4000000):Sy S6 107 #[.slice a xs.length cap] w (aC 52 8 Cm.enc xs w):=by
 rcases xs with _|⟨x0,xl⟩
 · cases a with
   | none=>exact(Tryz.slices_Clone_nil_f107 0 cap w).mono fun e w' ⟨he,hw⟩=>⟨_,he,Uy _ _ _ _,hw▸SU _ _⟩
   | some ad=>exact uI ad cap w
 · obtain⟨b,off,x,rfl,_⟩:=h.at_ (show 0<(x0::xl).length by simp)
   obtain⟨j0,hj,hy0,hy1,hy2⟩:=Sw Tryz.info52
   exact(Tryz.slices_Clone_f107 j0 _ 8 72 hj hy0 hy1 hy2 rfl (by decide) (fun w=>by kernel_rfl) b off (x0::xl).length cap ((x0::xl).flatMap Cm.enc) w (iW Cm.enc 8 (fun _=>rfl) _) (by unfold maxLen;omega) (by omega) (iJ (k:=8) (enc:=Cm.enc) (Ok:=Ok) (fun _=>rfl) h) (nB (enc:=Cm.enc) Cm.one _)).mono fun e w' ⟨v,he,ho,_,hb⟩=>⟨v,he,ho,hb⟩
theorem Tryz.info50:(S6.info? 50).map (fun i=>(i.zero,i.size,i.bytes))=some (some (.agg #[.int .i64 0,.int .i64 0,.int .i64 0,.string ⟨#[]⟩,.int .u8 0,.string ⟨#[]⟩,.slice none 0 0]),7,88):=by kernel_rfl
theorem Ev.one:∀ (x:Ev)(v:Sx),v∈x.enc→v.oneCell'=true:=by
 intro x v hv
 simp only [Ev.enc,SF,SH,or_false] at hv
 rcases hv with rfl|rfl|rfl|rfl|rfl|rfl|rfl<;>rfl
theorem uG (ad:Addr)(c:Nat)(w:Su):Sy S6 108 #[.slice (some ad) 0 c] w (aC 50 7 Ev.enc [] w):=by
 have HE:=h_ (fun(v:Sx) (w':Su) (ho:w'.ownsRow w.heap.size 50 7 v (0+([]:List Ev).length) ([]++([]:List Ev).flatMap Ev.enc)) (hb:Below w.heap.size w w')=>show aC 50 7 Ev.enc [] w (.returned v) w' from⟨v,rfl,ho,hb⟩)
 have q22:∀ (w:Su) (a:Option Addr) (n c n' c':Nat),(binOp .eql 24 (.slice a n c) (.slice none n' c')).run S6 w=.ok (.bool a.isNone) w:=fun w a n c n' c'=>Uw w _ _ a n c n' c' Tf
 obtain⟨j0,hj,hy0,hy1,hy2⟩:=Sw Tryz.info50
 have JI:=h_ hj;have J0:=h_ hy0;have J1:=h_ hy1;have J2:=h_ hy2
 generalize aC 50 7 Ev.enc [] w=Q at *
 clear hj hy0 hy1 hy2
 go_enter Tryz.func108,Tryz.ntmps108
 go_wp2_with (at_builtin;refine ax (enc:=Ev.enc) (Ok:=Flat) _ rfl (.tmp 5) (.tmp 6) 24 rfl w.heap.size 50 j0 _ 7 88 Tf JI.out J0.out J1.out J2.out rfl (by decide) (fun _=>rfl) Ev.one _ 0 [] rfl (Uz w #[] 0 (SV _) (SW _) (by simp)) (some ad) c [] rfl (.inl rfl) ?h63 ?hb ?hbase ?_)
 try (case h63=>decide)
 try (case hb=>decide)
 try (case hbase=>simp)
 intro v' w' ho hg _
 have HO:=h_ ho
 have HB:=h_ (show Below w.heap.size w w' from((SU _ _).alloc (SV _) _).grown hg (by simp) (fun j hj=>by simp [Ur] at hj;omega))
 clear ho hg
 go_wp2_with fail
 exact HE.out _ _ HO.out HB.out
theorem uH {Ok:Su→Ev→Prop} (a:Option Addr)(cap:Nat)(xs:List Ev)(w:Su)(h:af 7 Ev.enc Ok w a xs)(hl:xs.length≤4000000):Sy S6 108 #[.slice a xs.length cap] w (aC 50 7 Ev.enc xs w):=by
 rcases xs with _|⟨x0,xl⟩
 · cases a with
   | none=>exact(Tryz.slices_Clone_nil_f108 0 cap w).mono fun e w' ⟨he,hw⟩=>⟨_,he,Uy _ _ _ _,hw▸SU _ _⟩
   | some ad=>exact uG ad cap w
 · obtain⟨b,off,x,rfl,_⟩:=h.at_ (show 0<(x0::xl).length by simp)
   obtain⟨j0,hj,hy0,hy1,hy2⟩:=Sw Tryz.info50
   exact(Tryz.slices_Clone_f108 j0 _ 7 88 hj hy0 hy1 hy2 rfl (by decide) (fun w=>by kernel_rfl) b off (x0::xl).length cap ((x0::xl).flatMap Ev.enc) w (iW Ev.enc 7 (fun _=>rfl) _) (by unfold maxLen;omega) (by omega) (iJ (k:=7) (enc:=Ev.enc) (Ok:=Ok) (fun _=>rfl) h) (nB (enc:=Ev.enc) Ev.one _)).mono fun e w' ⟨v,he,ho,_,hb⟩=>⟨v,he,ho,hb⟩
end Go.Proofs.YtnlnmbcaongehaaGreatDoor
namespace Go.Proofs
open Go.Shelf
def Tryz.lays156_ren:UA:=⟨fun|156=>68|165=>123|166=>67|169=>69|240=>122|241=>194|276=>193|277=>256|n=>n,fun|31=>55|9=>9|3=>3|4=>4|0=>0|20=>20|72=>123|76=>127|70=>120|37=>121|75=>126|127=>182|164=>257|5=>5|80=>130|n=>n,fun|n=>n⟩
theorem Tryz.lays156:Go.Proofs.Lays.n156 S6 Tryz.lays156_ren:={
 mixed:=by kernel_rfl
 f156:=Tryz.func68.trans (congrArg some (by kernel_rfl))
 f165:=Tryz.func123.trans (congrArg some (by kernel_rfl))
 f166:=Tryz.func67.trans (congrArg some (by kernel_rfl))
 f169:=Tryz.func69.trans (congrArg some (by kernel_rfl))
 f240:=Tryz.func122.trans (congrArg some (by kernel_rfl))
 f241:=Tryz.func194.trans (congrArg some (by kernel_rfl))
 f276:=Tryz.func193.trans (congrArg some (by kernel_rfl))
 f277:=Tryz.func256.trans (congrArg some (by kernel_rfl))
 t0:=Ta
 a0:=Tp
 z0:=Tl
 v0:=Td
 t3:=S_
 a3:=To
 z3:=Tk
 v3:=Tc
 t4:=S9
 a4:=Tn
 z4:=Tj
 v4:=Tb
 t9:=S7
 a9:=Ti
 z9:=Th
 v9:=S8
 t20:=Tm
 a20:=Tt
 z20:=Tr
 v20:=Tq
 t31:=Ts
 a31:=Tz
 z31:=Tx
 v31:=Tu
 t37:=Tryz.underlying121
 a37:=Tryz.isAgg121
 z37:=Tryz.sizeOf121
 v37:=Tryz.zeroValue121
 t70:=Tryz.underlying120
 a70:=Tryz.isAgg120
 z70:=Tryz.sizeOf120
 v70:=Tryz.zeroValue120
 t72:=Tryz.underlying123
 a72:=Tryz.isAgg123
 z72:=Tryz.sizeOf123
 v72:=Tryz.zeroValue123
 t75:=Tryz.underlying126
 a75:=Tryz.isAgg126
 z75:=Tryz.sizeOf126
 v75:=Tryz.zeroValue126
 t76:=Tryz.underlying127
 a76:=Tryz.isAgg127
 z76:=Tryz.sizeOf127
 v76:=Tryz.zeroValue127
 t127:=Tryz.underlying182
 a127:=Tryz.isAgg182
 z127:=Tryz.sizeOf182
 v127:=Tryz.zeroValue182
 t164:=Tryz.underlying257
 a164:=Tryz.isAgg257
 z164:=Tryz.sizeOf257
 v164:=Tryz.zeroValue257 }
theorem Tryz.Builder_Extra_156:Builder.Extra S6 Tryz.lays156_ren:={
 sizeBuilder:=by kernel_rfl
 liesBuilder:=by kernel_rfl
 t5:=Tv
 a5:=TA
 z5:=Ty
 v5:=Tw
 infoByte:=by kernel_rfl
 cellsByte:=by kernel_rfl
 sizeByte:=by kernel_rfl
 neB5:=by decide }
open Go.RowKit in
theorem Tryz.strings_Join_none (a:Option Addr)(c:Nat)(sep:ByteArray)(w:Su) :
 Sy S6 68 #[.slice a 0 c,.string sep] w fun e w'=>e=.returned (.string ⟨#[]⟩)∧w'=w:=Any.strings_Join_none Tryz.lays156 Tryz.Builder_Extra_156 a c sep w
open Go.RowKit in
theorem Tryz.strings_Join (bk o c:Nat)(xs:List ByteArray)(sep:ByteArray)(w:Su)(hcells:∀ (j:Nat) x,xs[j]? =some x→w.cell? ⟨bk,o+j,none⟩=some (.string x))(hbk:bk<w.heap.size)(hN:xs.length≤140737488355328)(hcap:xs.length≤c)(hlen:(Lib.join (xs.map (·.data.toList)) sep.data.toList).length≤140737488355328) :
 Sy S6 68 #[.slice (some ⟨bk,o,none⟩) xs.length c,.string sep] w fun e w'=>e=.returned (.string ⟨(Lib.join (xs.map (·.data.toList)) sep.data.toList).toArray⟩)∧Below w.heap.size w w':=Any.strings_Join Tryz.lays156 Tryz.Builder_Extra_156 bk o c xs sep w hcells hbk hN hcap hlen
def Tryz.laysSlM5_f94_ren:UA:=⟨fun|5=>94|8=>164|7=>166|19=>228|20=>229|10=>230|11=>231|12=>232|13=>233|14=>234|15=>235|16=>236|17=>237|18=>238|30=>271|31=>266|32=>267|33=>272|34=>273|35=>217|40=>288|n=>n,fun|23=>85|25=>2|3=>3|32=>238|22=>85|0=>0|44=>290|46=>259|4=>4|36=>284|35=>283|41=>156|5=>5|9=>9|53=>325|57=>329|63=>341|64=>342|n=>n,fun|n=>n⟩
theorem Tryz.laysSlM5_f94:Go.Proofs.SlLaysM.n5 S6 Tryz.laysSlM5_f94_ren:={
 mixed:=by kernel_rfl
 f5:=⟨Tryz.f94.name,by decide,Tryz.func94.trans (congrArg some (by kernel_rfl))⟩
 f7:=⟨Tryz.f166.name,by decide,Tryz.func166.trans (congrArg some (by kernel_rfl))⟩
 f8:=Uq.trans (congrArg some (by kernel_rfl))
 f10:=⟨Tryz.f230.name,by decide,Tryz.func230.trans (congrArg some (by kernel_rfl))⟩
 f11:=⟨Tryz.f231.name,by decide,Tryz.func231.trans (congrArg some (by kernel_rfl))⟩
 f12:=⟨Tryz.f232.name,by decide,Tryz.func232.trans (congrArg some (by kernel_rfl))⟩
 f13:=⟨Tryz.f233.name,by decide,Tryz.func233.trans (congrArg some (by kernel_rfl))⟩
 f14:=⟨Tryz.f234.name,by decide,Tryz.func234.trans (congrArg some (by kernel_rfl))⟩
 f15:=⟨Tryz.f235.name,by decide,Tryz.func235.trans (congrArg some (by kernel_rfl))⟩
 f16:=⟨Tryz.f236.name,by decide,Tryz.func236.trans (congrArg some (by kernel_rfl))⟩
 f17:=⟨Tryz.f237.name,by decide,Tryz.func237.trans (congrArg some (by kernel_rfl))⟩
 f18:=⟨Tryz.f238.name,by decide,Tryz.func238.trans (congrArg some (by kernel_rfl))⟩
 f19:=Up.trans (congrArg some (by kernel_rfl))
 f20:=Uo.trans (congrArg some (by kernel_rfl))
 f30:=⟨Tryz.f271.name,by decide,Tryz.func271.trans (congrArg some (by kernel_rfl))⟩
 f31:=Un.trans (congrArg some (by kernel_rfl))
 f32:=Um.trans (congrArg some (by kernel_rfl))
 f33:=⟨Tryz.f272.name,by decide,Tryz.func272.trans (congrArg some (by kernel_rfl))⟩
 f34:=⟨Tryz.f273.name,by decide,Tryz.func273.trans (congrArg some (by kernel_rfl))⟩
 f35:=⟨Tryz.f217.name,by decide,Tryz.func217.trans (congrArg some (by kernel_rfl))⟩
 f40:=⟨Tryz.f288.name,by decide,Tryz.func288.trans (congrArg some (by kernel_rfl))⟩
 t0:=Ta
 a0:=Tp
 z0:=Tl
 v0:=Td
 t3:=S_
 a3:=To
 z3:=Tk
 v3:=Tc
 t4:=S9
 a4:=Tn
 z4:=Tj
 v4:=Tb
 t5:=Tv
 a5:=TA
 z5:=Ty
 v5:=Tw
 t9:=S7
 a9:=Ti
 z9:=Th
 v9:=S8
 t22:=TX
 a22:=Ul
 z22:=Ua
 v22:=T0
 t23:=TX
 a23:=Ul
 z23:=Ua
 v23:=T0
 t25:=Tryz.underlying2
 a25:=Tryz.isAgg2
 z25:=Tryz.sizeOf2
 v25:=Tryz.zeroValue2
 t32:=TL
 a32:=Uj
 z32:=T9
 v32:=TV
 t35:=TJ
 a35:=Uh
 z35:=T7
 v35:=TT
 t36:=TI
 a36:=Ug
 z36:=T6
 v36:=TS
 t41:=TM
 a41:=Uk
 z41:=T_
 v41:=TW
 t44:=TG
 a44:=Uf
 z44:=T5
 v44:=TR
 t46:=TK
 a46:=Ui
 z46:=T8
 v46:=TU
 t53:=TF
 a53:=Ue
 z53:=T4
 v53:=TQ
 t57:=TE
 a57:=Ud
 z57:=T3
 v57:=TP
 t63:=TD
 a63:=Uc
 z63:=T2
 v63:=TO
 t64:=TC
 a64:=Ub
 z64:=T1
 v64:=TN }
open Go.Sort Go.RowKit in
theorem Tryz.slices_Sort_int (blk off cap:Nat)(zs:List Int)(w:Su)(hH:Holds (Us .i64) w blk off zs.toArray)(hblk:blk<w.heap.size)(hsz:zs.length<4611686018427387904) :
 Sy S6 94 #[.slice (some ⟨blk,off,none⟩) zs.length cap] w fun e w' =>
  e=.returned (.tuple #[])∧∃ n os,w'=grow (putRow (Us .i64) (Sort.ahead w n) blk off (zs.mergeSort fun x y=>decide (x≤y)).toArray) os:=AnyM.slices_Sort_int Tryz.laysSlM5_f94 blk off cap zs w hH hblk hsz
def Tryz.laysSlM6_f91_ren:UA:=⟨fun|6=>91|8=>164|9=>163|19=>228|20=>229|21=>219|22=>220|23=>221|24=>222|25=>223|26=>224|27=>225|28=>226|29=>227|36=>265|31=>266|32=>267|37=>268|38=>269|39=>270|41=>287|n=>n,fun|27=>55|29=>9|3=>3|32=>238|26=>55|0=>0|44=>290|46=>259|4=>4|36=>284|35=>283|41=>156|5=>5|9=>9|53=>325|57=>329|63=>341|64=>342|n=>n,fun|n=>n⟩
theorem Tryz.laysSlM6_f91:Go.Proofs.SlLaysM.n6 S6 Tryz.laysSlM6_f91_ren:={
 mixed:=by kernel_rfl
 f6:=⟨Tryz.f91.name,by decide,Tryz.func91.trans (congrArg some (by kernel_rfl))⟩
 f8:=Uq.trans (congrArg some (by kernel_rfl))
 f9:=⟨Tryz.f163.name,by decide,Tryz.func163.trans (congrArg some (by kernel_rfl))⟩
 f19:=Up.trans (congrArg some (by kernel_rfl))
 f20:=Uo.trans (congrArg some (by kernel_rfl))
 f21:=⟨Tryz.f219.name,by decide,Tryz.func219.trans (congrArg some (by kernel_rfl))⟩
 f22:=⟨Tryz.f220.name,by decide,Tryz.func220.trans (congrArg some (by kernel_rfl))⟩
 f23:=⟨Tryz.f221.name,by decide,Tryz.func221.trans (congrArg some (by kernel_rfl))⟩
 f24:=⟨Tryz.f222.name,by decide,Tryz.func222.trans (congrArg some (by kernel_rfl))⟩
 f25:=⟨Tryz.f223.name,by decide,Tryz.func223.trans (congrArg some (by kernel_rfl))⟩
 f26:=⟨Tryz.f224.name,by decide,Tryz.func224.trans (congrArg some (by kernel_rfl))⟩
 f27:=⟨Tryz.f225.name,by decide,Tryz.func225.trans (congrArg some (by kernel_rfl))⟩
 f28:=⟨Tryz.f226.name,by decide,Tryz.func226.trans (congrArg some (by kernel_rfl))⟩
 f29:=⟨Tryz.f227.name,by decide,Tryz.func227.trans (congrArg some (by kernel_rfl))⟩
 f31:=Un.trans (congrArg some (by kernel_rfl))
 f32:=Um.trans (congrArg some (by kernel_rfl))
 f36:=⟨Tryz.f265.name,by decide,Tryz.func265.trans (congrArg some (by kernel_rfl))⟩
 f37:=⟨Tryz.f268.name,by decide,Tryz.func268.trans (congrArg some (by kernel_rfl))⟩
 f38:=⟨Tryz.f269.name,by decide,Tryz.func269.trans (congrArg some (by kernel_rfl))⟩
 f39:=⟨Tryz.f270.name,by decide,Tryz.func270.trans (congrArg some (by kernel_rfl))⟩
 f41:=⟨Tryz.f287.name,by decide,Tryz.func287.trans (congrArg some (by kernel_rfl))⟩
 t0:=Ta
 a0:=Tp
 z0:=Tl
 v0:=Td
 t3:=S_
 a3:=To
 z3:=Tk
 v3:=Tc
 t4:=S9
 a4:=Tn
 z4:=Tj
 v4:=Tb
 t5:=Tv
 a5:=TA
 z5:=Ty
 v5:=Tw
 t9:=S7
 a9:=Ti
 z9:=Th
 v9:=S8
 t26:=Ts
 a26:=Tz
 z26:=Tx
 v26:=Tu
 t27:=Ts
 a27:=Tz
 z27:=Tx
 v27:=Tu
 t29:=S7
 a29:=Ti
 z29:=Th
 v29:=S8
 t32:=TL
 a32:=Uj
 z32:=T9
 v32:=TV
 t35:=TJ
 a35:=Uh
 z35:=T7
 v35:=TT
 t36:=TI
 a36:=Ug
 z36:=T6
 v36:=TS
 t41:=TM
 a41:=Uk
 z41:=T_
 v41:=TW
 t44:=TG
 a44:=Uf
 z44:=T5
 v44:=TR
 t46:=TK
 a46:=Ui
 z46:=T8
 v46:=TU
 t53:=TF
 a53:=Ue
 z53:=T4
 v53:=TQ
 t57:=TE
 a57:=Ud
 z57:=T3
 v57:=TP
 t63:=TD
 a63:=Uc
 z63:=T2
 v63:=TO
 t64:=TC
 a64:=Ub
 z64:=T1
 v64:=TN }
open Go.Sort Go.RowKit in
theorem Tryz.slices_Sort_string (blk off cap:Nat)(ss:List (List UInt8))(w:Su)(hH:Holds encStr w blk off ss.toArray)(hblk:blk<w.heap.size)(hsz:ss.length<4611686018427387904) :
 Sy S6 91 #[.slice (some ⟨blk,off,none⟩) ss.length cap] w fun e w' =>
  e=.returned (.tuple #[])∧∃ n os,w'=grow (putRow encStr (Sort.ahead w n) blk off (ss.mergeSort fun x y=>decide (x≤y)).toArray) os:=AnyM.slices_Sort_string Tryz.laysSlM6_f91 blk off cap ss w hH hblk hsz
open Go.RowKit Go.Sort in
theorem Tryz.slices_Sort_string_none (p:Option Addr)(cap:Nat)(w:Su) :
 Sy S6 91 #[.slice p 0 cap] w fun e w'=>e=.returned (.tuple #[])∧w'=w:=AnyM.slices_Sort_string_none Tryz.laysSlM6_f91 p cap w
open Go.RowKit Go.Sort in
theorem Tryz.slices_Sort_int_none (p:Option Addr)(cap:Nat)(w:Su) :
 Sy S6 94 #[.slice p 0 cap] w fun e w'=>e=.returned (.tuple #[])∧w'=w:=AnyM.slices_Sort_int_none Tryz.laysSlM5_f94 p cap w
def Tryz.grow162_ren:UA:=⟨fun|4=>162|n=>n,fun|22=>23|25=>44|3=>3|4=>4|9=>9|20=>20|0=>0|n=>n,fun|n=>n⟩
theorem Tryz.grow162:UB S6 Tryz.grow162_ren:={
 mixed:=by kernel_rfl
 f4:=⟨Tryz.f162.name,by decide,Tryz.func162.trans (congrArg some (by kernel_rfl))⟩
 t0:=Ta
 a0:=Tp
 z0:=Tl
 v0:=Td
 t3:=S_
 a3:=To
 z3:=Tk
 v3:=Tc
 t4:=S9
 a4:=Tn
 z4:=Tj
 v4:=Tb
 t9:=S7
 a9:=Ti
 z9:=Th
 v9:=S8
 t20:=Tm
 a20:=Tt
 z20:=Tr
 v20:=Tq
 t22:=Tg
 a22:=Tryz.isAgg23
 z22:=Tryz.sizeOf23
 v22:=Tryz.zeroValue23 }
def Tryz.grow165_ren:UA:=⟨fun|4=>165|n=>n,fun|22=>24|25=>50|3=>3|4=>4|9=>9|20=>20|0=>0|n=>n,fun|n=>n⟩
theorem Tryz.grow165:UB S6 Tryz.grow165_ren:={
 mixed:=by kernel_rfl
 f4:=⟨Tryz.f165.name,by decide,Tryz.func165.trans (congrArg some (by kernel_rfl))⟩
 t0:=Ta
 a0:=Tp
 z0:=Tl
 v0:=Td
 t3:=S_
 a3:=To
 z3:=Tk
 v3:=Tc
 t4:=S9
 a4:=Tn
 z4:=Tj
 v4:=Tb
 t9:=S7
 a9:=Ti
 z9:=Th
 v9:=S8
 t20:=Tm
 a20:=Tt
 z20:=Tr
 v20:=Tq
 t22:=Tf
 a22:=Tryz.isAgg24
 z22:=Tryz.sizeOf24
 v22:=Tryz.zeroValue24 }
def Tryz.grow169_ren:UA:=⟨fun|4=>169|n=>n,fun|22=>25|25=>52|3=>3|4=>4|9=>9|20=>20|0=>0|n=>n,fun|n=>n⟩
theorem Tryz.grow169:UB S6 Tryz.grow169_ren:={
 mixed:=by kernel_rfl
 f4:=⟨Tryz.f169.name,by decide,Tryz.func169.trans (congrArg some (by kernel_rfl))⟩
 t0:=Ta
 a0:=Tp
 z0:=Tl
 v0:=Td
 t3:=S_
 a3:=To
 z3:=Tk
 v3:=Tc
 t4:=S9
 a4:=Tn
 z4:=Tj
 v4:=Tb
 t9:=S7
 a9:=Ti
 z9:=Th
 v9:=S8
 t20:=Tm
 a20:=Tt
 z20:=Tr
 v20:=Tq
 t22:=Te
 a22:=Tryz.isAgg25
 z22:=Tryz.sizeOf25
 v22:=Tryz.zeroValue25 }
end Go.Proofs
namespace Go.Proofs.YtnlnmbcaongehaaGreatDoor
open Go.RowKit
theorem vq (n:Nat)(w:Su)(hn:n≤8000000):Sy S6 162 #[.slice none 0 0,.int .i64 n] w (aC (α:=Reg) 44 7 Reg.enc [] w):=by
 rcases SX n with rfl|h0
 · exact(UC Tryz.grow162 none 0 0 0 w (SV _) (by omega) (by omega) (by omega)).mono fun e w' ⟨he,hw⟩=>⟨_,he,Uy _ _ _ _,hw▸SU _ _⟩
 · obtain⟨j0,hj,hy0,hy1,hy2⟩:=Sw Tryz.info44
   have h:=UD Tryz.grow162 j0 _ hj hy0 (by rw [hy1];decide) none 0 0 n [] w (SV _) (by omega) (by rw [hy2];omega) (by omega) (by simp) (fun _=>rfl) (fun a ha=>by cases ha)
   refine h.mono fun e w' ⟨he,hw⟩=>⟨_,he,?_,?_⟩
   · subst hw
     have hG:=SD w (0+n) 0 (Tryz.grow162_ren.t 25)
     have hM:=SA w (0+n) 0 (Tryz.grow162_ren.t 25) (by unfold maxLen;omega)
     refine⟨rfl,.inr ⟨_,_,_,rfl,SV _,SC w.drew _,SW _,hM,?_,by simp⟩⟩
     simp only [SY] at hG hM ⊢
     generalize grownCap w n 0 (Tryz.grow162_ren.t 25)=G at *
     simp only [UE,SI,SB,Ut,SK]
     simp
     omega
   · subst hw
     exact((SU _ _).drew).alloc (SV _) _
theorem uv {Ok:Su→Reg→Prop} (hK:Keeps Ok)(g c1 c2:Nat)(a1 a2:Option Addr)(xs ys:List Reg)(w:Su)(d0:w.cell? ⟨g,0,none⟩=some (.slice a1 xs.length c1))(d1:w.cell? ⟨g,1,none⟩=some (.slice a2 ys.length c2))(hg:g<w.heap.size)
 (h1:af 7 Reg.enc Ok w a1 xs) (h2:af 7 Reg.enc Ok w a2 ys) (hx:xs.length≤4000000) (hy:ys.length≤4000000) :
 Sy S6 90 #[.slice (some ⟨g,0,none⟩) 2 2] w (aC 44 7 Reg.enc (xs++ys) w):=by
 have HG:=h_ (vq (xs.length+ys.length) w (by omega))
 have H1:=h_ (fun(w':Su) (hb:Below w.heap.size w w')=>af.keeps hK _ _ _ _ hb h1)
 have H2:=h_ (fun(w':Su) (hb:Below w.heap.size w w')=>af.keeps hK _ _ _ _ hb h2)
 have HQ:=h_ (fun(v:Sx) (w':Su) (ho:w'.ownsRow w.heap.size 44 7 v (xs.length+ys.length) (xs.flatMap Reg.enc++ys.flatMap Reg.enc)) (hb:Below w.heap.size w w')=>(show aC 44 7 Reg.enc (xs++ys) w (.returned v) w' from⟨v,rfl,by simpa using ho,hb⟩))
 obtain⟨j0,hj,hy0,hy1,hy2⟩:=Sw Tryz.info44
 have JI:=h_ hj;have J0:=h_ hy0;have J1:=h_ hy1;have J2:=h_ hy2
 have hp:¬ ((xs.length:Int)<0):=by omega
 have hp2:¬ ((xs.length:Int)+(ys.length:Int)<0):=by omega
 generalize aC 44 7 Reg.enc (xs++ys) w=Q at *
 clear hj hy0 hy1 hy2 h1 h2
 go_enter Tryz.func90,Tryz.ntmps90
 go_wp2_with fail
 refine Sz 3 ?_
 rw [Sv]
 go_wp2_with fail
 rw [Sv]
 go_wp2_with fail
 rw [Sv]
 go_wp2_with fail
 rw [show((xs.length:Int)+(ys.length:Int))=((xs.length+ys.length:Nat):Int) by omega]
 refine HG.out.mono ?_
 rintro e w1 ⟨v,rfl,ho1,hb1⟩
 have e0:w1.cell? ⟨g,0,none⟩=some (.slice a1 xs.length c1):=(hb1.cell (p:=⟨g,0,none⟩) hg).trans d0
 have e1:w1.cell? ⟨g,1,none⟩=some (.slice a2 ys.length c2):=(hb1.cell (p:=⟨g,1,none⟩) hg).trans d1
 have xS:=h_ ho1
 have HB1:=h_ hb1
 have hs1:=hb1.size
 clear ho1 hb1 d0 d1 HG
 go_wp2_with fail
 refine Sz 3 ?_
 rw [Sv]
 go_wp2_with (at_builtin;refine ax (enc:=Reg.enc) (Ok:=Ok) _ rfl (.tmp 31) (.tmp 32) 23 rfl w.heap.size 44 j0 _ 7 56 Tg JI.out J0.out J1.out J2.out rfl (by decide) (fun _=>rfl) Reg.one _ 0 [] rfl xS.out a1 c1 xs rfl (H1.out _ HB1.out) ?h63 ?hb ?hbase ?_)
 case h63=>unfold maxLen;omega
 case hb=>omega
 case hbase=>exact hs1
 intro v2 w2 ho2 hg2 _
 have hb2:Below w.heap.size w w2:=HB1.out.grown hg2 hs1 (fun j hj=>(xS.out.lt j hj).1)
 have f1:w2.cell? ⟨g,1,none⟩=some (.slice a2 ys.length c2):=hg2.cell e1 (fun e=>absurd (xS.out.lt g e.symm).1 (by omega))
 have kH:=h_ ho2
 have HB2:=h_ hb2
 have hs2:=hb2.size
 clear ho2 hb2 hg2 e0 e1
 go_wp2_with fail
 rw [Sv]
 go_wp2_with (at_builtin;refine ax (enc:=Reg.enc) (Ok:=Ok) _ rfl (.tmp 31) (.tmp 32) 23 rfl w.heap.size 44 j0 _ 7 56 Tg JI.out J0.out J1.out J2.out rfl (by decide) (fun _=>rfl) Reg.one _ _ _ rfl kH.out a2 c2 ys rfl (H2.out _ HB2.out) ?h63 ?hb ?hbase ?_)
 case h63=>unfold maxLen;omega
 case hb=>omega
 case hbase=>exact hs2
 intro v3 w3 ho3 hg3 _
 have hb3:Below w.heap.size w w3:=HB2.out.grown hg3 hs2 (fun j hj=>(kH.out.lt j hj).1)
 have qW:=h_ ho3
 have HB3:=h_ hb3
 clear ho3 hb3 hg3 f1
 go_wp2_with fail
 rw [Sv]
 go_wp2_with fail
 exact HQ.out v3 _ (by simpa using qW.out) HB3.out
theorem Ee (n:Nat)(w:Su)(hn:n≤8000000):Sy S6 165 #[.slice none 0 0,.int .i64 n] w (aC (α:=Ev) 50 7 Ev.enc [] w):=by
 rcases SX n with rfl|h0
 · exact(UC Tryz.grow165 none 0 0 0 w (SV _) (by omega) (by omega) (by omega)).mono fun e w' ⟨he,hw⟩=>⟨_,he,Uy _ _ _ _,hw▸SU _ _⟩
 · obtain⟨j0,hj,hy0,hy1,hy2⟩:=Sw Tryz.info50
   have h:=UD Tryz.grow165 j0 _ hj hy0 (by rw [hy1];decide) none 0 0 n [] w (SV _) (by omega) (by rw [hy2];omega) (by omega) (by simp) (fun _=>rfl) (fun a ha=>by cases ha)
   refine h.mono fun e w' ⟨he,hw⟩=>⟨_,he,?_,?_⟩
   · subst hw
     have hG:=SD w (0+n) 0 (Tryz.grow165_ren.t 25)
     have hM:=SA w (0+n) 0 (Tryz.grow165_ren.t 25) (by unfold maxLen;omega)
     refine⟨rfl,.inr ⟨_,_,_,rfl,SV _,SC w.drew _,SW _,hM,?_,by simp⟩⟩
     simp only [SY] at hG hM ⊢
     generalize grownCap w n 0 (Tryz.grow165_ren.t 25)=G at *
     simp only [UE,SI,SB,Ut,SK]
     simp
     omega
   · subst hw
     exact((SU _ _).drew).alloc (SV _) _
theorem uu {Ok:Su→Ev→Prop} (hK:Keeps Ok)(g c1 c2:Nat)(a1 a2:Option Addr)(xs ys:List Ev)(w:Su)(d0:w.cell? ⟨g,0,none⟩=some (.slice a1 xs.length c1))(d1:w.cell? ⟨g,1,none⟩=some (.slice a2 ys.length c2))(hg:g<w.heap.size)
 (h1:af 7 Ev.enc Ok w a1 xs) (h2:af 7 Ev.enc Ok w a2 ys) (hx:xs.length≤4000000) (hy:ys.length≤4000000) :
 Sy S6 93 #[.slice (some ⟨g,0,none⟩) 2 2] w (aC 50 7 Ev.enc (xs++ys) w):=by
 have HG:=h_ (Ee (xs.length+ys.length) w (by omega))
 have H1:=h_ (fun(w':Su) (hb:Below w.heap.size w w')=>af.keeps hK _ _ _ _ hb h1)
 have H2:=h_ (fun(w':Su) (hb:Below w.heap.size w w')=>af.keeps hK _ _ _ _ hb h2)
 have HQ:=h_ (fun(v:Sx) (w':Su) (ho:w'.ownsRow w.heap.size 50 7 v (xs.length+ys.length) (xs.flatMap Ev.enc++ys.flatMap Ev.enc)) (hb:Below w.heap.size w w')=>(show aC 50 7 Ev.enc (xs++ys) w (.returned v) w' from⟨v,rfl,by simpa using ho,hb⟩))
 obtain⟨j0,hj,hy0,hy1,hy2⟩:=Sw Tryz.info50
 have JI:=h_ hj;have J0:=h_ hy0;have J1:=h_ hy1;have J2:=h_ hy2
 have hp:¬ ((xs.length:Int)<0):=by omega
 have hp2:¬ ((xs.length:Int)+(ys.length:Int)<0):=by omega
 generalize aC 50 7 Ev.enc (xs++ys) w=Q at *
 clear hj hy0 hy1 hy2 h1 h2
 go_enter Tryz.func93,Tryz.ntmps93
 go_wp2_with fail
 refine Sz 3 ?_
 rw [Sv]
 go_wp2_with fail
 rw [Sv]
 go_wp2_with fail
 rw [Sv]
 go_wp2_with fail
 rw [show((xs.length:Int)+(ys.length:Int))=((xs.length+ys.length:Nat):Int) by omega]
 refine HG.out.mono ?_
 rintro e w1 ⟨v,rfl,ho1,hb1⟩
 have e0:w1.cell? ⟨g,0,none⟩=some (.slice a1 xs.length c1):=(hb1.cell (p:=⟨g,0,none⟩) hg).trans d0
 have e1:w1.cell? ⟨g,1,none⟩=some (.slice a2 ys.length c2):=(hb1.cell (p:=⟨g,1,none⟩) hg).trans d1
 have xS:=h_ ho1
 have HB1:=h_ hb1
 have hs1:=hb1.size
 clear ho1 hb1 d0 d1 HG
 go_wp2_with fail
 refine Sz 3 ?_
 rw [Sv]
 go_wp2_with (at_builtin;refine ax (enc:=Ev.enc) (Ok:=Ok) _ rfl (.tmp 31) (.tmp 32) 24 rfl w.heap.size 50 j0 _ 7 88 Tf JI.out J0.out J1.out J2.out rfl (by decide) (fun _=>rfl) Ev.one _ 0 [] rfl xS.out a1 c1 xs rfl (H1.out _ HB1.out) ?h63 ?hb ?hbase ?_)
 case h63=>unfold maxLen;omega
 case hb=>omega
 case hbase=>exact hs1
 intro v2 w2 ho2 hg2 _
 have hb2:Below w.heap.size w w2:=HB1.out.grown hg2 hs1 (fun j hj=>(xS.out.lt j hj).1)
 have f1:w2.cell? ⟨g,1,none⟩=some (.slice a2 ys.length c2):=hg2.cell e1 (fun e=>absurd (xS.out.lt g e.symm).1 (by omega))
 have kH:=h_ ho2
 have HB2:=h_ hb2
 have hs2:=hb2.size
 clear ho2 hb2 hg2 e0 e1
 go_wp2_with fail
 rw [Sv]
 go_wp2_with (at_builtin;refine ax (enc:=Ev.enc) (Ok:=Ok) _ rfl (.tmp 31) (.tmp 32) 24 rfl w.heap.size 50 j0 _ 7 88 Tf JI.out J0.out J1.out J2.out rfl (by decide) (fun _=>rfl) Ev.one _ _ _ rfl kH.out a2 c2 ys rfl (H2.out _ HB2.out) ?h63 ?hb ?hbase ?_)
 case h63=>unfold maxLen;omega
 case hb=>omega
 case hbase=>exact hs2
 intro v3 w3 ho3 hg3 _
 have hb3:Below w.heap.size w w3:=HB2.out.grown hg3 hs2 (fun j hj=>(kH.out.lt j hj).1)
 have qW:=h_ ho3
 have HB3:=h_ hb3
 clear ho3 hb3 hg3 f1
 go_wp2_with fail
 rw [Sv]
 go_wp2_with fail
 exact HQ.out v3 _ (by simpa using qW.out) HB3.out
theorem Ed (n:Nat)(w:Su)(hn:n≤8000000):Sy S6 169 #[.slice none 0 0,.int .i64 n] w (aC (α:=Cm) 52 8 Cm.enc [] w):=by
 rcases SX n with rfl|h0
 · exact(UC Tryz.grow169 none 0 0 0 w (SV _) (by omega) (by omega) (by omega)).mono fun e w' ⟨he,hw⟩=>⟨_,he,Uy _ _ _ _,hw▸SU _ _⟩
 · obtain⟨j0,hj,hy0,hy1,hy2⟩:=Sw Tryz.info52
   have h:=UD Tryz.grow169 j0 _ hj hy0 (by rw [hy1];decide) none 0 0 n [] w (SV _) (by omega) (by rw [hy2];omega) (by omega) (by simp) (fun _=>rfl) (fun a ha=>by cases ha)
   refine h.mono fun e w' ⟨he,hw⟩=>⟨_,he,?_,?_⟩
   · subst hw
     have hG:=SD w (0+n) 0 (Tryz.grow169_ren.t 25)
     have hM:=SA w (0+n) 0 (Tryz.grow169_ren.t 25) (by unfold maxLen;omega)
     refine⟨rfl,.inr ⟨_,_,_,rfl,SV _,SC w.drew _,SW _,hM,?_,by simp⟩⟩
     simp only [SY] at hG hM ⊢
     generalize grownCap w n 0 (Tryz.grow169_ren.t 25)=G at *
     simp only [UE,SI,SB,Ut,SK]
     simp
     omega
   · subst hw
     exact((SU _ _).drew).alloc (SV _) _
theorem ur {Ok:Su→Cm→Prop} (hK:Keeps Ok)(g c1 c2:Nat)(a1 a2:Option Addr)(xs ys:List Cm)(w:Su)(d0:w.cell? ⟨g,0,none⟩=some (.slice a1 xs.length c1))(d1:w.cell? ⟨g,1,none⟩=some (.slice a2 ys.length c2))(hg:g<w.heap.size)
 (h1:af 8 Cm.enc Ok w a1 xs) (h2:af 8 Cm.enc Ok w a2 ys) (hx:xs.length≤4000000) (hy:ys.length≤4000000) :
 Sy S6 97 #[.slice (some ⟨g,0,none⟩) 2 2] w (aC 52 8 Cm.enc (xs++ys) w):=by
 have HG:=h_ (Ed (xs.length+ys.length) w (by omega))
 have H1:=h_ (fun(w':Su) (hb:Below w.heap.size w w')=>af.keeps hK _ _ _ _ hb h1)
 have H2:=h_ (fun(w':Su) (hb:Below w.heap.size w w')=>af.keeps hK _ _ _ _ hb h2)
 have HQ:=h_ (fun(v:Sx) (w':Su) (ho:w'.ownsRow w.heap.size 52 8 v (xs.length+ys.length) (xs.flatMap Cm.enc++ys.flatMap Cm.enc)) (hb:Below w.heap.size w w')=>(show aC 52 8 Cm.enc (xs++ys) w (.returned v) w' from⟨v,rfl,by simpa using ho,hb⟩))
 obtain⟨j0,hj,hy0,hy1,hy2⟩:=Sw Tryz.info52
 have JI:=h_ hj;have J0:=h_ hy0;have J1:=h_ hy1;have J2:=h_ hy2
 have hp:¬ ((xs.length:Int)<0):=by omega
 have hp2:¬ ((xs.length:Int)+(ys.length:Int)<0):=by omega
 generalize aC 52 8 Cm.enc (xs++ys) w=Q at *
 clear hj hy0 hy1 hy2 h1 h2
 go_enter Tryz.func97,Tryz.ntmps97
 go_wp2_with fail
 refine Sz 3 ?_
 rw [Sv]
 go_wp2_with fail
 rw [Sv]
 go_wp2_with fail
 rw [Sv]
 go_wp2_with fail
 rw [show((xs.length:Int)+(ys.length:Int))=((xs.length+ys.length:Nat):Int) by omega]
 refine HG.out.mono ?_
 rintro e w1 ⟨v,rfl,ho1,hb1⟩
 have e0:w1.cell? ⟨g,0,none⟩=some (.slice a1 xs.length c1):=(hb1.cell (p:=⟨g,0,none⟩) hg).trans d0
 have e1:w1.cell? ⟨g,1,none⟩=some (.slice a2 ys.length c2):=(hb1.cell (p:=⟨g,1,none⟩) hg).trans d1
 have xS:=h_ ho1
 have HB1:=h_ hb1
 have hs1:=hb1.size
 clear ho1 hb1 d0 d1 HG
 go_wp2_with fail
 refine Sz 3 ?_
 rw [Sv]
 go_wp2_with (at_builtin;refine ax (enc:=Cm.enc) (Ok:=Ok) _ rfl (.tmp 31) (.tmp 32) 25 rfl w.heap.size 52 j0 _ 8 72 Te JI.out J0.out J1.out J2.out rfl (by decide) (fun _=>rfl) Cm.one _ 0 [] rfl xS.out a1 c1 xs rfl (H1.out _ HB1.out) ?h63 ?hb ?hbase ?_)
 case h63=>unfold maxLen;omega
 case hb=>omega
 case hbase=>exact hs1
 intro v2 w2 ho2 hg2 _
 have hb2:Below w.heap.size w w2:=HB1.out.grown hg2 hs1 (fun j hj=>(xS.out.lt j hj).1)
 have f1:w2.cell? ⟨g,1,none⟩=some (.slice a2 ys.length c2):=hg2.cell e1 (fun e=>absurd (xS.out.lt g e.symm).1 (by omega))
 have kH:=h_ ho2
 have HB2:=h_ hb2
 have hs2:=hb2.size
 clear ho2 hb2 hg2 e0 e1
 go_wp2_with fail
 rw [Sv]
 go_wp2_with (at_builtin;refine ax (enc:=Cm.enc) (Ok:=Ok) _ rfl (.tmp 31) (.tmp 32) 25 rfl w.heap.size 52 j0 _ 8 72 Te JI.out J0.out J1.out J2.out rfl (by decide) (fun _=>rfl) Cm.one _ _ _ rfl kH.out a2 c2 ys rfl (H2.out _ HB2.out) ?h63 ?hb ?hbase ?_)
 case h63=>unfold maxLen;omega
 case hb=>omega
 case hbase=>exact hs2
 intro v3 w3 ho3 hg3 _
 have hb3:Below w.heap.size w w3:=HB2.out.grown hg3 hs2 (fun j hj=>(kH.out.lt j hj).1)
 have qW:=h_ ho3
 have HB3:=h_ hb3
 clear ho3 hb3 hg3 f1
 go_wp2_with fail
 rw [Sv]
 go_wp2_with fail
 exact HQ.out v3 _ (by simpa using qW.out) HB3.out
theorem yX {α:Type} [Inhabited α] [DecidableEq α] (d:Array α)(j:Nat):Ux d j=true↔j=0∨d[j]!≠d[j-1]!:=by
 unfold Ux
 simp
theorem kX {α:Type} [Inhabited α] [DecidableEq α] (le lt:α→α→Prop)(hlt:∀ a b,le a b→a≠b→lt a b)(htr:∀ a b c,le a b→lt b c→lt a c)(d:Array α)(hs:∀ i j,i<j→j<d.size→le d[i]! d[j]!) :
 ∀ m,m≤d.size→(Uu d m).Pairwise lt∧(∀ x,x∈Uu d m↔∃ j,j<m∧d[j]! =x)∧(∀ x∈Uu d m,0<m→(x=d[m-1]!∨lt x d[m-1]!))
 | 0,_=>⟨by simp [Uu],by simp [Uu],by simp [Uu]⟩
 | m+1,hm=>by
   obtain⟨h1,h2,h3⟩:=kX le lt hlt htr d hs m (by omega)
   rw [Lib.compactUpTo_succ]
   by_cases hk:Ux d m=true
   · rw [if_pos hk]
     have hk':=(yX d m).1 hk
     have hnew:∀ x∈Uu d m,lt x d[m]!:=fun x hx=>by
      rcases SX m with h0|h0
      · subst h0
        simp [Uu] at hx
      · have hne:d[m]!≠d[m-1]!:=by
         rcases hk' with h|h
         · omega
         · exact h
        have hl:=hlt _ _ (hs (m-1) m (by omega) (by omega)) (fun e=>hne e.symm)
        rcases h3 x hx h0 with rfl|h
        · exact hl
        · obtain⟨j,hj,rfl⟩:=(h2 x).1 hx
          by_cases hjm:j=m-1
          · rw [hjm];exact hl
          · exact htr _ _ _ (hs j (m-1) (by omega) (by omega)) hl
     refine⟨List.pairwise_append.2 ⟨h1,List.pairwise_singleton _ _,fun a ha b hb=>?_⟩,fun x=>?_,fun x hx _=>?_⟩
     · obtain rfl:b=d[m]!:=by simpa using hb
       exact hnew a ha
     · rw [SR,h2]
       constructor
       · rintro (⟨j,hj,rfl⟩|hx)
         · exact⟨j,by omega,rfl⟩
         · exact⟨m,by omega,(List.mem_singleton.1 hx).symm⟩
       · rintro ⟨j,hj,rfl⟩
         by_cases hjm:j=m
         · right;rw [hjm];simp
         · left;exact⟨j,by omega,rfl⟩
     · simp only [SZ]
       rcases SR.1 hx with hx|hx
       · exact .inr (hnew x hx)
       · exact .inl (by simpa using hx)
   · rw [if_neg hk,List.append_nil]
     have hk':¬ (m=0∨d[m]!≠d[m-1]!):=fun h=>hk ((yX d m).2 h)
     have hm0:m≠0:=fun e=>hk' (.inl e)
     have heq:d[m]! =d[m-1]!:=Classical.byContradiction fun e=>hk' (.inr e)
     refine⟨h1,fun x=>?_,fun x hx _=>?_⟩
     · rw [h2]
       constructor
       · rintro ⟨j,hj,rfl⟩;exact⟨j,by omega,rfl⟩
       · rintro ⟨j,hj,rfl⟩
         by_cases hjm:j=m
         · exact⟨m-1,by omega,by rw [hjm];exact heq.symm⟩
         · exact⟨j,by omega,rfl⟩
     · simp only [SZ]
       rw [heq]
       exact h3 x hx (by omega)
theorem ow {α:Type} [Inhabited α] [DecidableEq α] (le lt:α→α→Prop)(hlt:∀ a b,le a b→a≠b→lt a b)(htr:∀ a b c,le a b→lt b c→lt a c)(zs:List α)(hs:zs.Pairwise le):(Uv zs).Pairwise lt∧∀ x,x∈Uv zs↔x∈zs:=by
 have h:=kX le lt hlt htr zs.toArray (fun i j hij hj=>by
  have hj':j<zs.length:=by simpa using hj
  rw [getElem!_pos zs.toArray i (by simp;omega),getElem!_pos zs.toArray j hj]
  simpa using List.pairwise_iff_getElem.1 hs i j (by omega) hj' hij) zs.length (by simp)
 refine⟨h.1,fun x=>?_⟩
 rw [show Uv zs=Uu zs.toArray zs.length from rfl,h.2.1]
 constructor
 · rintro ⟨j,hj,rfl⟩
   rw [getElem!_pos zs.toArray j (by simpa using hj)]
   simp
 · intro hx
   obtain⟨j,hj,rfl⟩:=List.getElem_of_mem hx
   exact⟨j,hj,by rw [getElem!_pos zs.toArray j (by simpa using hj)];simp⟩
theorem tk {α:Type} (lt:α→α→Prop)(hir:∀ a,¬ lt a a)(Pg:∀ a b,lt a b→lt b a→False):∀ (xs ys:List α),xs.Pairwise lt→ys.Pairwise lt→(∀ x,x∈xs↔x∈ys)→xs=ys
 | [],[],_,_,_=>rfl
 | [],y::ys,_,_,h=>absurd ((h y).2 (by simp)) (by simp)
 | x::xs,[],_,_,h=>absurd ((h x).1 (by simp)) (by simp)
 | x::xs,y::ys,hx,hy,h=>by
   rw [List.pairwise_cons] at hx hy
   have hxy:x=y:=by
    rcases SF.1 ((h x).1 (by simp)) with e|e
    · exact e
    · rcases SF.1 ((h y).2 (by simp)) with e'|e'
      · exact e'.symm
      · exact(Pg _ _ (hy.1 x e) (hx.1 y e')).elim
   subst hxy
   rw [tk lt hir Pg xs ys hx.2 hy.2 fun z=>?_]
   constructor
   · intro hz
     rcases SF.1 ((h z).1 (SO _ hz)) with e|e
     · subst e;exact(hir _ (hx.1 z hz)).elim
     · exact e
   · intro hz
     rcases SF.1 ((h z).2 (SO _ hz)) with e|e
     · subst e;exact(hir _ (hy.1 z hz)).elim
     · exact e
theorem yH {X:Su} {base T k n:Nat} {v:Sx} {xs:List Sx} (h:X.ownsRow base T k v n xs)(os:Array Obj):(Sort.grow X os).ownsRow base T k v n xs:=by
 refine⟨h.1,?_⟩
 rcases h.2 with h0|⟨g,cap,cur,h1,h2,h3,h4⟩
 · exact .inl h0
 · exact .inr ⟨g,cap,cur,h1,h2,by rw [Sort.heap_grow_old _ _ (Array.getElem?_eq_some_iff.1 h3).1];exact h3,h4⟩
theorem vy {B:Nat} {W X:Su} (h:Below B W X)(hB:B≤X.heap.size)(os:Array Obj):Below B W (Sort.grow X os) :=
 ⟨h.os,h.tape,h.output,by have:=h.size;simp;omega,fun k hk=>by rw [Sort.heap_grow_old _ _ (Nat.lt_of_lt_of_le hk hB)];exact h.block k hk⟩
def fk (ss:List (List UInt8)):List (List UInt8):=ss.mergeSort fun x y=>decide (x≤y)
def aR (zs:List Int):List Int:=zs.mergeSort fun x y=>decide (x≤y)
def KK {α:Type} (T:Nat)(enc:α→Sx)(base:Nat)(v:Sx)(zs:List α)(w:Su)(e:Ending)(r:Sx)(w':Su):Prop:=e=.returned r∧w'.ownsRow base T 1 v zs.length (zs.map enc)∧Below base w w'
theorem oN (base:Nat)(v:Sx)(ss:List (List UInt8))(w:Su)(hown:w.ownsRow base 9 1 v ss.length (ss.map encStr))(hl:ss.length≤8000000)(hb:base≤w.heap.size) :
 Sy S6 91 #[v] w fun e w'=>KK 9 encStr base v (fk ss) w e (.tuple #[]) w':=by
 have hlen:(fk ss).length=ss.length:=SN ..
 by_cases hv:v=.slice none 0 0
 · subst hv
   have h0:ss=[]:=by
    rcases hown.2 with⟨_,h⟩|⟨_,_,_,h,_⟩
    · exact SG h
    · cases h
   subst h0
   exact(Tryz.slices_Sort_string_none none 0 w).mono fun e w' ⟨he,hw⟩=>⟨he,by subst hw;simpa [fk] using hown,hw▸SU _ _⟩
 · obtain⟨g,cap,rfl,hbg,hgl,_,_,_,hH⟩:=Lib.holds_of_ownsRow hown hv
   refine(Tryz.slices_Sort_string g 0 cap ss w hH hgl (by omega)).mono fun e w' ⟨he,n,os,hw⟩=>?_
   subst hw
   have h1:=Lib.ownsRow_putRow (q:=n) (ys:=fk ss) hown hlen (SV _)
   rw [SM (by omega)] at h1
   exact⟨he,by rw [hlen];exact yH h1 os,vy (Lib.below_putRow (SU _ _) hbg) (by simpa using hb) os⟩
theorem gR (base:Nat)(v:Sx)(ss:List Int)(w:Su)(hown:w.ownsRow base 2 1 v ss.length (ss.map (Us .i64)))(hl:ss.length≤8000000)(hb:base≤w.heap.size) :
 Sy S6 94 #[v] w fun e w'=>KK 2 (Us .i64) base v (aR ss) w e (.tuple #[]) w':=by
 have hlen:(aR ss).length=ss.length:=SN ..
 by_cases hv:v=.slice none 0 0
 · subst hv
   have h0:ss=[]:=by
    rcases hown.2 with⟨_,h⟩|⟨_,_,_,h,_⟩
    · exact SG h
    · cases h
   subst h0
   exact(Tryz.slices_Sort_int_none none 0 w).mono fun e w' ⟨he,hw⟩=>⟨he,by subst hw;simpa [aR] using hown,hw▸SU _ _⟩
 · obtain⟨g,cap,rfl,hbg,hgl,_,_,_,hH⟩:=Lib.holds_of_ownsRow hown hv
   refine(Tryz.slices_Sort_int g 0 cap ss w hH hgl (by omega)).mono fun e w' ⟨he,n,os,hw⟩=>?_
   subst hw
   have h1:=Lib.ownsRow_putRow (q:=n) (ys:=aR ss) hown hlen (SV _)
   rw [SM (by omega)] at h1
   exact⟨he,by rw [hlen];exact yH h1 os,vy (Lib.below_putRow (SU _ _) hbg) (by simpa using hb) os⟩
def np {α:Type} (T:Nat)(enc:α→Sx)(base:Nat)(zs:List α)(w:Su)(e:Ending)(w':Su):Prop:=∃ v,e=.returned v∧w'.ownsRow base T 1 v zs.length (zs.map enc)∧Below base w w'
theorem mr (base:Nat)(v:Sx)(ss:List (List UInt8))(w:Su)(hown:w.ownsRow base 9 1 v ss.length (ss.map encStr))(hl:ss.length≤8000000) :
 Sy S6 92 #[v] w (np 9 encStr base (Uv ss) w):=by
 by_cases hv:v=.slice none 0 0
 · subst hv
   have h0:ss=[]:=by
    rcases hown.2 with⟨_,h⟩|⟨_,_,_,h,_⟩
    · exact SG h
    · cases h
   subst h0
   exact(Tryz.slices_Compact_string_empty none 0 w).mono fun e w' ⟨he,hw⟩=>⟨_,he,by subst hw;simpa [Uv,Uu] using hown,hw▸SU _ _⟩
 · obtain⟨g,cap,rfl,hbg,hgl,hnc,_,_,hH⟩:=Lib.holds_of_ownsRow hown hv
   have hle:=Lib.compact_length_le ss
   refine(Tryz.slices_Compact_string g 0 cap ss w hH (by omega) hnc).mono fun e w' ⟨he,q,hw⟩=>?_
   subst hw
   have h1:=Lib.ownsRow_putRow (q:=q) (k:=(Uv ss).length) (ys:=Uv ss++SS (ss.length-(Uv ss).length) []) hown (by simp;omega) hle
   rw [SJ (SV _),SQ] at h1
   exact⟨_,he,h1,Lib.below_putRow (SU _ _) hbg⟩
theorem fS (base:Nat)(v:Sx)(ss:List Int)(w:Su)(hown:w.ownsRow base 2 1 v ss.length (ss.map (Us .i64)))(hl:ss.length≤8000000) :
 Sy S6 95 #[v] w (np 2 (Us .i64) base (Uv ss) w):=by
 by_cases hv:v=.slice none 0 0
 · subst hv
   have h0:ss=[]:=by
    rcases hown.2 with⟨_,h⟩|⟨_,_,_,h,_⟩
    · exact SG h
    · cases h
   subst h0
   exact(Tryz.slices_Compact_int_empty none 0 w).mono fun e w' ⟨he,hw⟩=>⟨_,he,by subst hw;simpa [Uv,Uu] using hown,hw▸SU _ _⟩
 · obtain⟨g,cap,rfl,hbg,hgl,hnc,_,_,hH⟩:=Lib.holds_of_ownsRow hown hv
   have hle:=Lib.compact_length_le ss
   refine(Tryz.slices_Compact_int g 0 cap ss w hH (by omega) hnc).mono fun e w' ⟨he,q,hw⟩=>?_
   subst hw
   have h1:=Lib.ownsRow_putRow (q:=q) (k:=(Uv ss).length) (ys:=Uv ss++SS (ss.length-(Uv ss).length) 0) hown (by simp;omega) hle
   rw [SJ (SV _),SQ] at h1
   exact⟨_,he,h1,Lib.below_putRow (SU _ _) hbg⟩
end Go.Proofs.YtnlnmbcaongehaaGreatDoor
