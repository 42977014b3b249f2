/- DiffApplies: the document after any changes is the specified one. Conditions: the arguments hold together at most 1048576 values and letters (the second form); the library's tables are as their text lays them (the card ties them). -/
import Derived.Test.YtnlnmbcaongehaaGreatDoorCards
import Derived.Test.YtnlnmbcaongehaaGreatDoorTie
import Derived.Test.YtnlnmbcaongehaaGreatDoorA13
set_option linter.unusedVariables false
set_option linter.unusedSimpArgs false
set_option maxRecDepth 100000
set_option maxHeartbeats 12800000
open Go.Lib renaming hid→h_
open Go renaming World→e_,wpList_load_mid→fb,heap_alloc_last→fe,wpList_store_row→ff,cell_setRow_same→fg,Value→fh,bodyPost_ret→fi,below_setRow→fj,Calls→fk,setRow_other→fm,TypeId→fo,trodAll_cons_mk→fp
open Go.RowKit renaming Below→fq
open Go.RowKit.Below renaming refl→fr,trod→ft
open Nat renaming le_refl→fu,zero_le→fw
open Array renaming getElem?_eq_some_iff→fx
open Go.Proofs.Tryz renaming prog→fy,underlying27→fz,f4→fA,underlying4→fB,results15→fC,underlying54→fD,underlying9→fE,func4→fF,checked→fG,underlying29→fH,underlying2→fI,params4→fJ,ntmps15→fK,func15→fL
open List renaming getElem?_eq_some_iff→fM,length_map→fN,drop_zero→fO,mem_of_getElem?→fP,getElem?_map→fQ
open Go.Value renaming string→fR,okWide→fS,cells→fT
open Go.DataW renaming trod→fU,trod_int→fV,trod_string→fW,trod_bool→fX,trod_struct→fY,trod_lt→fZ,whole→f_
open Go.Proofs.YtnlnmbcaongehaaGreatDoor.Rows renaming diffAppliesUptoRow→ga,diffAppliesSpec→gb,uptoBulkAll→gd,uptoSmall→gf,uptoBulk→gg
open Go.Proofs.YtnlnmbcaongehaaGreatDoor.Rows.OpenSpec renaming upto→gh
namespace Go.Proofs.YtnlnmbcaongehaaGreatDoor
open Go.RowKit
def zkV (St:Int→Doc→Prop)(d:Doc)(w:e_)(e:Ending)(w':e_):Prop :=
 ∃ (err:Int) (d2:Doc),e=.returned (.tuple #[.agg d2.enc.toArray,.int .i64 err])∧d2.lies w'∧(∀ b,d2.uses b→d.uses b∨w.heap.size≤b)∧fq w.heap.size w w'∧St err d2
def ew (St:Nat→Doc→Prop)(w:e_)(gB:Nat)(k:Nat)(wr:e_):Prop :=
 ∃ d':Doc,eB d' gB wr∧St k d'∧(∀ b,d'.uses b→w.heap.size+2≤b)∧wr.heap[w.heap.size+1]? =some (.cells af 27 (0,0))∧fq w.heap.size w wr
theorem ew.start {St:Nat→Doc→Prop} {w w2:e_} {d2:Doc} (hz:w2.heap[w.heap.size+1]? =some (.cells af 27 (0,0)))(hl:d2.lies w2)(hu:∀ b,d2.uses b→w.heap.size+2≤b)(hb:fq w.heap.size w w2)(h0:St 0 d2) :
 ew St w w2.heap.size 0 (w2.alloc (.cells d2.enc.toArray 27)):=by
 have hba:fq w2.heap.size w2 (w2.alloc (.cells d2.enc.toArray 27)):=(fr _ _).alloc (fu _) _
 exact⟨d2,⟨fe w2 _,Doc.later hl hba,fun b h=>by have:=Doc.uses_lt hl h;omega⟩,h0,hu,ar hz,hb.trans (hba.mono hb.size)⟩
theorem ew.step {St:Nat→Doc→Prop} {w wr w1 w5:e_} {gB:Nat} {d' d2:Doc} {k:Nat} (h1:eB d' gB wr)(hg:w.heap.size+2≤gB)(h3:∀ b,d'.uses b→w.heap.size+2≤b)(h4:wr.heap[w.heap.size+1]? =some (.cells af 27 (0,0)))(h5:fq w.heap.size w wr)(hb:fq wr.heap.size wr w1)
 (q1:d2.lies w5) (q2:∀ b,d2.uses b→d'.uses b∨w1.heap.size≤b) (q3:fq w1.heap.size w1 w5) (q4:St k d2):ew St w gB k (w5.setRow gB d2.enc.toArray)∧(w5.setRow gB d2.enc.toArray).heap[w.heap.size+1]? =some (.cells af 27 (0,0))∧fq w.heap.size w (w5.setRow gB d2.enc.toArray):=by
 have hgl:=(fx.1 h1.cells).1
 have hlt:w.heap.size+1<wr.heap.size:=(fx.1 h4).1
 have hs:=hb.size
 have hb5:=hb.trans (q3.mono hs)
 have hk5:=(hb5.block gB hgl).trans h1.cells
 have hz5:(w5.setRow gB d2.enc.toArray).heap[w.heap.size+1]? =some (.cells af 27 (0,0)):=by
  rw [fm _ _ _ _ (by omega),hb5.block _ hlt]
  exact h4
 have hbw:fq w.heap.size w (w5.setRow gB d2.enc.toArray):=fj (h5.trans (hb5.mono h5.size)) (by omega) _
 have hne:∀ b,d2.uses b→b≠gB:=fun b hu=>by
  rcases q2 b hu with h|h
  · exact h1.apart b h
  · omega
 refine⟨⟨d2,⟨setRow_heap w5 _ _ _ 27 (0,0) hk5,Doc.frame q1 (by simp) (fun b h=>fm w5 _ b _ (hne b h)),hne⟩,q4,fun b hu=>?_,hz5,hbw⟩,hz5,hbw⟩
 rcases q2 b hu with h|h
 · exact h3 b h
 · have:=h5.size
   omega
theorem zhU (St:Nat→Doc→Prop)(Bad:Int→Prop)(d:Doc)(a:Option Addr)(cap:Nat)(xs:List Chg)(w:e_)
 (hE:Env w) (hd:d.lies w) (hf:d.fits) (h0:az d=0) (hx:zez w a xs) (hl:xs.length≤40000000)
 (hS0:∀ d':Doc,d'.c=d.c→St 0 d') (hSf:∀ k d',St k d'→d'.fits) (hSb:∀ d',St xs.length d'→az d'≠0→Bad (az d'))
 (hAP:∀ (k:Nat) (x:Chg) (d':Doc) (w':e_),xs[k]? =some x→St k d'→d'.lies w'→x.lies w'→fk fy 57 #[.agg d'.enc.toArray,.agg x.enc.toArray] w' (zkV (fun err d2=>(err=0→St (k+1) d2)∧(err≠0→Bad err)) d' w')) :
 fk fy 15 #[.agg d.enc.toArray,.slice a xs.length cap] w (eA (St xs.length) Bad w):=by
 have HFIN:=h_ (fun(w5:e_) (d':Doc) h1 h2 h3 h4 h5=>zg5 (Fin:=St xs.length) (Bad:=Bad) (w:=w) (w5:=w5) (d':=d') h1 h2 h3 h4 h5)
 have HBAD:=h_ (fun(w5:e_) (err:Int) (cs:Array fh) h1 h2 h3=>zg7 (Fin:=St xs.length) (Bad:=Bad) (w:=w) (w5:=w5) (err:=err) cs h1 h2 h3)
 generalize eA (St xs.length) Bad w=Q at *
 have HCK:=h_ (fun(d':Doc) (w1:e_) (h:fq w.heap.size w w1) (h1:d'.lies w1) (h2:d'.fits)=>dm d' w1 (hE.below h (fu _)) h1 h2)
 have HCK0:=h_ (fun(w1:e_) (h:fq w.heap.size w w1)=>(dm d w1 (hE.below h (fu _)) (Doc.later hd h) hf).mono (fun e w' p=>(show e=.returned (.int .i64 0)∧fq w1.heap.size w1 w' from⟨by rw [p.1,h0],p.2⟩)))
 have HCL:=h_ (fun(w1:e_) (h:fq w.heap.size w w1)=>zcd d w1 (Doc.later hd h) hf)
 have HX:=h_ hx
 have HS0:=h_ hS0
 have HSF:=h_ hSf
 have HSB:=h_ hSb
 have HAP:=h_ hAP
 clear hE hd hf h0 hx hS0 hSf hSb hAP
 have HDI:=h_ (show(fy.info? 27).map (·.size)=some d.enc.length from aI)
 generalize hdl:d.enc=dl at *
 have hk1:((w.alloc (.cells dl.toArray 27)).alloc (.cells af 27)).heap[w.heap.size]? =some (.cells dl.toArray 27 (0,0)):=ar (fe w _)
 have hk2:((w.alloc (.cells dl.toArray 27)).alloc (.cells af 27)).heap[w.heap.size+1]? =some (.cells af 27 (0,0)):=aD _ (by simp)
 have hb0:fq (w.heap.size+2) ((w.alloc (.cells dl.toArray 27)).alloc (.cells af 27)) ((w.alloc (.cells dl.toArray 27)).alloc (.cells af 27)):=fr _ _
 have HB:=h_ (fun(w1:e_) (h:fq (w.heap.size+2) ((w.alloc (.cells dl.toArray 27)).alloc (.cells af 27)) w1)=>aR h)
 have hsz:((w.alloc (.cells dl.toArray 27)).alloc (.cells af 27)).heap.size=w.heap.size+2:=by simp
 have hw0:(w.alloc (.cells dl.toArray 27)).alloc (.cells #[.string ⟨#[]⟩,.string ⟨#[]⟩,.int .u8 0,.bool false,.int .i64 0,.slice none 0 0,.slice none 0 0,.slice none 0 0] 27)=(w.alloc (.cells dl.toArray 27)).alloc (.cells af 27):=rfl
 generalize (w.alloc (.cells dl.toArray 27)).alloc (.cells af 27)=W0 at *
 have HW0:=h_ hw0
 have HSZ:=h_ hsz
 have HK1:=h_ hk1
 have HK2:=h_ hk2
 have HT0:=h_ (fun(w2 w3:e_) (h:fq (w.heap.size+2) W0 w2) (h3:fq w2.heap.size w2 w3)=>(h.trans (h3.mono (by have:=h.size;rw [HSZ.out] at this;exact this)):fq (w.heap.size+2) W0 w3))
 have HLT:=h_ (fun(w2:e_) (h:fq (w.heap.size+2) W0 w2)=>(show w.heap.size+2≤w2.heap.size by have:=h.size;rw [HSZ.out] at this;exact this))
 have HR1:=h_ (fun(w1:e_) (h:fq (w.heap.size+2) W0 w1)=>ay ((h.block w.heap.size (by omega)).trans HK1.out))
 clear hw0 hsz hk1 hk2 hdl
 go_enter fL,fK
 go_upto_region 1 with fail
 rw [HW0.out]
 go_wp2_with (refine fb rfl 27 (.tmp 2) rfl w.heap.size 0 rfl dl _ (HR1.out _ hb0) fz rfl HDI.out ?_)
 refine(HCK0.out _ (HB.out _ hb0)).mono ?_
 rintro e w1 ⟨rfl,hb1⟩
 have hc1:=HT0.out _ _ hb0 hb1
 clear hb1 HCK0
 go_wp2_with (refine fb rfl 27 (.tmp 2) rfl w.heap.size 0 rfl dl _ (HR1.out _ hc1) fz rfl HDI.out ?_)
 refine(HCL.out _ (HB.out _ hc1)).mono ?_
 rintro e w2 ⟨d2,rfl,hcc2,hl2,hu2,hb2⟩
 have hc2:=HT0.out _ _ hc1 hb2
 have hz2:=(hc2.block (w.heap.size+1) (by omega)).trans HK2.out
 have hlt1:=HLT.out _ hc1
 have hlt2:=HLT.out _ hc2
 have hu2':∀ b,d2.uses b→w.heap.size+2≤b:=fun b h=>by have:=hu2 b h;omega
 have H0:=h_ (ew.start (St:=St) hz2 hl2 hu2' (HB.out _ hc2) (HS0.out d2 hcc2))
 have HGB:=h_ hlt2
 have HD2:=h_ (show d2.enc.toArray.size=8 from rfl)
 have H2C:=h_ (bq (Doc.one d2))
 have HD2I:=h_ (show(fy.info? 27).map (·.size)=some d2.enc.toArray.size from aI)
 clear hcc2 hl2 hu2 hb2 hz2 HCL HS0 hlt1 hu2' hlt2 HK2 HR1 HK1 HDI
 generalize d2.enc.toArray=ds2 at *
 go_wp2_with (refine ff rfl 27 (.tmp 7) (.tmp 19) rfl w2.heap.size ds2 rfl rfl 27 _ (fe w2 _) HD2I.out HD2.out.symm H2C.out ?_;rw [e_.setRow_alloc_new])
 generalize w2.heap.size=gB at *
 clear HD2I H2C HD2 hc2 hc1 hb0 HT0 HLT
 go_loopw [22] (fun i wr=>∃ k:Nat,k≤xs.length∧i=.int .i64 k∧ew St w gB k wr) (fun i _=>xs.length-(intOf i).toNat)
 case atStart=>exact⟨0,by omega,rfl,H0.out⟩
 case round =>
  obtain⟨k,hk,rfl,hR⟩:=hrel
  clear H0
  obtain⟨d',q1,q2,q3,q4,q5⟩:=hR
  have hgr:=(fx.1 q4).1
  have hgl:=(fx.1 q1.cells).1
  by_cases hlt:k<xs.length
  · obtain⟨b,off,x,rfl,hbl,hxk,hc,hxl⟩:=(ab.keeps Chg.keeps _ _ _ _ q5 HX.out).at_ hlt
    have hbA:fq wr.heap.size wr (wr.alloc (.cells x.enc.toArray 54)):=(fr _ _).alloc (fu _) _
    have HCALL:=h_ (HAP.out k x d' (wr.alloc (.cells x.enc.toArray 54)) hxk q2 (q1.below hbA).lies (Chg.keeps _ _ _ hbA hxl))
    have HNEXT:=h_ (fun(w5:e_) (d2:Doc) (p1:d2.lies w5) p2 p3 (p4:St (k+1) d2)=>ew.step (k:=k+1) q1 HGB.out q3 q4 q5 hbA p1 p2 p3 p4)
    have HERR:=h_ (fun(w5:e_) (cs:Array fh) (p3:fq (wr.alloc (.cells x.enc.toArray 54)).heap.size (wr.alloc (.cells x.enc.toArray 54)) w5)=>(show(w5.setRow gB cs).heap[w.heap.size+1]? =some (.cells af 27 (0,0))∧fq w.heap.size w (w5.setRow gB cs) from⟨by
     rw [fm _ _ _ _ (by have:=HGB.out;omega),p3.block _ (by have:=hbA.size;omega),hbA.block _ hgr]
     exact q4,fj (q5.trans ((hbA.trans (p3.mono hbA.size)).mono q5.size)) (by have:=HGB.out;omega) _⟩))
    have HRG:=h_ (show wr.rangeAt b (off+k*59) x.enc from fun j v e=>hc j v e)
    have HSZ5:=h_ (show(fy.info? 54).map (·.size)=some x.enc.length from by rw [ef,Chg.len])
    have HRB:=h_ (ay (fe wr (.cells x.enc.toArray 54)))
    have HRO:=h_ (ay (ar (o':=.cells x.enc.toArray 54) q1.cells))
    have H1C:=h_ (bq (Chg.one x))
    have HL:=h_ (show x.enc.toArray.size=59 from rfl)
    have HI:=h_ (show(fy.info? 54).map (·.size)=some x.enc.toArray.size from by rw [HSZ5.out];simp)
    have HDE:=h_ (show(fy.info? 27).map (·.size)=some d'.enc.length from aI)
    have HGK:=h_ (fun(w5:e_) (p3:fq (wr.alloc (.cells x.enc.toArray 54)).heap.size (wr.alloc (.cells x.enc.toArray 54)) w5)=>(p3.block gB (by have:=hbA.size;omega)).trans (ar (o':=.cells x.enc.toArray 54) q1.cells))
    have HDS:=h_ (show d'.enc.toArray.size=8 from rfl)
    generalize x.enc=xe at *
    clear hc hxk hxl q1 q2 q3 q4 q5 hbA
    generalize d'.enc=de at *
    go_wp2_with (first|(refine fb rfl 54 (.tmp 24) rfl b (off+k*59) rfl xe _ HRG.out fD rfl HSZ5.out ?_)|(refine ff rfl 54 (.tmp 10) (.tmp 25) rfl wr.heap.size xe.toArray rfl rfl 54 _ (fe wr _) HI.out HL.out.symm H1C.out ?_;rw [e_.setRow_alloc_new])|(refine fb rfl 27 (.tmp 7) rfl gB 0 rfl de _ HRO.out fz rfl HDE.out ?_)|(refine fb rfl 54 (.tmp 10) rfl wr.heap.size 0 rfl xe _ HRB.out fD rfl HSZ5.out ?_))
    refine HCALL.out.mono ?_
    rintro e w5 ⟨err,d5,rfl,p1,p2,p3,p4⟩
    have HGK5:=h_ (HGK.out w5 p3)
    have HD5I:=h_ (show(fy.info? 27).map (·.size)=some d5.enc.toArray.size from aI)
    have HD5L:=h_ (show de.toArray.size=d5.enc.toArray.size from HDS.out)
    have H51:=h_ (bq (Doc.one d5))
    by_cases he:err=0
    · subst he
      have HN:=h_ (HNEXT.out w5 d5 p1 p2 p3 (p4.1 rfl)).1
      clear HCALL HNEXT HERR p1 p2 p3 p4 HGK
      generalize d5.enc.toArray=ds5 at *
      go_wp2_with (refine ff rfl 27 (.tmp 7) (.tmp 30) rfl gB ds5 rfl rfl 27 _ HGK5.out HD5I.out HD5L.out H51.out ?_)
      go_roundw
      case rel=>exact⟨k+1,by omega,by go_num,HN.out⟩
      case measure=>simp [intOf];omega
    · have hne:(err != 0)=true:=by simpa using he
      obtain⟨z5,b5⟩:=HERR.out w5 d5.enc.toArray p3
      have HE:=h_ (HBAD.out (w5.setRow gB d5.enc.toArray) err af (p4.2 he) he b5)
      have HZ5:=h_ z5
      clear HCALL HNEXT HERR p1 p2 p3 p4 z5 b5 HGK
      generalize d5.enc.toArray=ds5 at *
      have cz:∀ (j:Nat),((w5.setRow gB ds5).setRow (w.heap.size+1) af).cell? ⟨w.heap.size+1,j,none⟩=af[j]?:=fun j=>fg _ _ _ _ _ _ _ HZ5.out
      simp only [af] at cz
      go_wp2_with (first|(refine ff rfl 27 (.tmp 7) (.tmp 30) rfl gB ds5 rfl rfl 27 _ HGK5.out HD5I.out HD5L.out H51.out ?_)|(refine ff rfl 27 (.tmp 4) (.tmp 34) rfl (w.heap.size+1) #[.string ⟨#[]⟩,.string ⟨#[]⟩,.int .u8 0,.bool false,.int .i64 0,.slice none 0 0,.slice none 0 0,.slice none 0 0] rfl rfl 27 _ HZ5.out aI rfl cN ?_))
      refine fi (v:=.tuple #[.agg af,.int .i64 err]) (by simp [results,fC,go_sem,af,cz]) rfl HE.out
  · obtain rfl:k=xs.length:=by omega
    have hdf:=HSF.out _ _ q2
    have HCK1:=h_ (HCK.out d' wr q5 q1.lies hdf)
    have HR1':=h_ (fun(w1:e_) (h:fq wr.heap.size wr w1)=>ay ((q1.below h).cells))
    have HDI':=h_ (show(fy.info? 27).map (·.size)=some d'.enc.length from aI)
    have HZZ:=h_ (fun(w1:e_) (h:fq wr.heap.size wr w1)=>(h.block _ hgr).trans q4)
    have HB5:=h_ (fun(w1:e_) (h:fq wr.heap.size wr w1)=>(q5.trans (h.mono q5.size)))
    have HF5:=h_ (fun(w1:e_) (h:fq wr.heap.size wr w1) (h0:az d'=0)=>HFIN.out w1 d' q2 h0 (q1.below h).lies q3 (q5.trans (h.mono q5.size)))
    have HS5:=h_ (HSB.out d' q2)
    have H5C:=h_ (bq (Doc.one d'))
    clear q1 q2 q3 q4 q5 hdf HX HAP HSF HSB HCK
    obtain⟨title,lA,rate,drop,last,ra,rc,rG,ea,ec,evs,ca,cc,cms⟩:=d'
    generalize az _=ERR at *
    simp only [Doc.enc] at *
    go_wp2_with (refine fb rfl 27 (.tmp 7) rfl gB 0 rfl _ _ (HR1'.out _ (fr _ _)) fz rfl HDI'.out ?_)
    refine HCK1.out.mono ?_
    rintro e w5 ⟨rfl,hb5⟩
    have HZ5:=h_ (HZZ.out _ hb5)
    by_cases he:ERR=0
    · subst he
      have HE:=h_ (HF5.out w5 hb5 rfl)
      have HRW:=h_ (HR1'.out _ hb5)
      have cz:∀ (cs:Array fh) (j:Nat),(w5.setRow (w.heap.size+1) cs).cell? ⟨w.heap.size+1,j,none⟩=cs[j]?:=fun cs j=>fg _ _ _ _ _ _ _ HZ5.out
      clear HR1' HZZ HB5 HF5 HS5 HCK1 hb5
      go_wp2_with (first|(refine fb rfl 27 (.tmp 7) rfl gB 0 rfl _ _ HRW.out fz rfl HDI'.out ?_)|(refine ff rfl 27 (.tmp 4) (.tmp 43) rfl (w.heap.size+1) _ rfl rfl 27 _ HZ5.out HDI'.out rfl H5C.out ?_))
      refine fi (v:=.tuple #[.agg #[.string title,.string lA,.int .u8 rate,.bool drop,.int .i64 last,.slice ra rG.length rc,.slice ea evs.length ec,.slice ca cms.length cc],.int .i64 0]) (by simp [results,fC,go_sem,cz]) rfl HE.out
    · have hne:(ERR != 0)=true:=by simpa using he
      have HE:=h_ (HBAD.out w5 ERR af (HS5.out he) he (HB5.out _ hb5))
      have cz:∀ (j:Nat),(w5.setRow (w.heap.size+1) af).cell? ⟨w.heap.size+1,j,none⟩=af[j]?:=fun j=>fg _ _ _ _ _ _ _ HZ5.out
      simp only [af] at cz
      clear HR1' HZZ HB5 HF5 HS5 HCK1 hb5
      go_wp2_with (refine ff rfl 27 (.tmp 4) (.tmp 41) rfl (w.heap.size+1) #[.string ⟨#[]⟩,.string ⟨#[]⟩,.int .u8 0,.bool false,.int .i64 0,.slice none 0 0,.slice none 0 0,.slice none 0 0] rfl rfl 27 _ HZ5.out aI rfl cN ?_)
      refine fi (v:=.tuple #[.agg af,.int .i64 ERR]) (by simp [results,fC,go_sem,af,cz]) rfl HE.out
def PSt (d:DocC)(l:List ChgC)(n k:Nat)(d':Doc):Prop:=k≤l.length∧zds d'.c∧d'.c.fits (n+k)∧zar d l=zar d'.c (l.drop k)
theorem PSt.step {d:DocC} {l:List ChgC} {n k:Nat} {d' d2:Doc} {c:ChgC} {err:Int} (h:PSt d l n k d')(hc:l[k]? =some c)(hf:c.full)(he:err=(aV d'.c c).1)(h2:d2.c=(aV d'.c c).2):(err=0→PSt d l n (k+1) d2)∧(err≠0→(zar d l).1=err):=by
 obtain⟨h1,h3,h4,h5⟩:=h
 have hk:k<l.length:=(fM.1 hc).1
 rw [aZ l k c hc,zar] at h5
 refine⟨fun h0=>⟨by omega,by rw [h2];exact zkS h3,by rw [h2];exact ziu h4 hf,?_⟩,fun h0=>?_⟩
 · rw [if_pos (he.symm.trans h0)] at h5
   rw [h5,h2]
 · rw [if_neg (fun e=>h0 (he.trans e))] at h5
   rw [h5,←he]
theorem PSt.fin {d:DocC} {l:List ChgC} {n:Nat} {d':Doc} (h:PSt d l n l.length d'):zar d l=(0,d'.c):=by
 obtain⟨_,_,_,h5⟩:=h
 rw [List.drop_length,zar] at h5
 exact h5
theorem zki {d:Doc} {xs:List Chg} {n:Nat} {w:e_} (h0:az d=0)(e:Ending)(w':e_)(h:eA (PSt d.c (xs.map Chg.c) n xs.length) (fun err=>bC d.c (xs.map Chg.c)=err) w e w'):cY d.c (xs.map Chg.c) (n+xs.length) w e w':=by
 rcases h with⟨err,hb,hne,rfl,hbw⟩|⟨d',hf,hz,rfl,hl,_,hbw⟩
 · exact zgb hb hne hbw
 · have hlen:xs.length=(xs.map Chg.c).length:=by rw [fN]
   have hf':=hf
   rw [hlen] at hf'
   have hp:=hf'.fin
   have he:bC d.c (xs.map Chg.c)=0:=by
    unfold bC
    rw [if_pos ((dZ d).symm.trans h0),hp,if_pos rfl,←dZ,hz]
   refine⟨d',by rw [he],?_,hl,hf.2.2.1,hbw⟩
   unfold zdz
   rw [if_pos he,hp]
theorem zlH {d:Doc} {l:List ChgC} {err:Int} (h0:az d=0)(h:(zar d.c l).1=err)(hne:err≠0):bC d.c l=err:=by
 unfold bC
 rw [if_pos ((dZ d).symm.trans h0),if_neg (by rw [h];exact hne),h]
theorem zkF {d:Doc} {xs:List Chg} {n:Nat} {d':Doc} (h0:az d=0)(h:PSt d.c (xs.map Chg.c) n xs.length d'):bC d.c (xs.map Chg.c)=az d':=by
 have hlen:xs.length=(xs.map Chg.c).length:=by rw [fN]
 rw [hlen] at h
 unfold bC
 rw [if_pos ((dZ d).symm.trans h0),h.fin,if_pos rfl,←dZ]
theorem zj4 (d:Doc)(a:Option Addr)(cap m n:Nat)(l:List ChgC)(w:e_)(hE:Env w)(hd:d.lies w)(hf:d.fits)(h0:az d≠0) :
 fk fy 14 #[.agg d.enc.toArray,.slice a m cap] w (cY d.c l n w):=by
 have hpe:bC d.c l=az d:=by
  unfold bC
  rw [if_neg (by rw [←dZ];exact h0),dZ]
 have HBAD:=h_ (fun(w5:e_) (cs:Array fh) (h:fq w.heap.size w w5)=>zgb (d:=d.c) (l:=l) (n:=n) (w:=w) (w':=w5.setRow (w.heap.size+1) cs) hpe h0 (fj h (by omega) _))
 generalize cY d.c l n w=Q at *
 have HCK0:=h_ (fun(w1:e_) (h:fq w.heap.size w w1)=>a_ d w1 (hE.below h (fu _)) (Doc.later hd h) hf)
 generalize az d=ERR at *
 have hne:(ERR != 0)=true:=by simpa using h0
 have HDI:=h_ (show(fy.info? 27).map (·.size)=some d.enc.length from aI)
 clear hE hd hf hpe
 generalize d.enc=dl at *
 have hk1:((w.alloc (.cells dl.toArray 27)).alloc (.cells af 27)).heap[w.heap.size]? =some (.cells dl.toArray 27 (0,0)):=ar (fe w _)
 have hk2:((w.alloc (.cells dl.toArray 27)).alloc (.cells af 27)).heap[w.heap.size+1]? =some (.cells af 27 (0,0)):=aD _ (by simp)
 have hb0:fq (w.heap.size+2) ((w.alloc (.cells dl.toArray 27)).alloc (.cells af 27)) ((w.alloc (.cells dl.toArray 27)).alloc (.cells af 27)):=fr _ _
 have HB:=h_ (fun(w1:e_) (h:fq (w.heap.size+2) ((w.alloc (.cells dl.toArray 27)).alloc (.cells af 27)) w1)=>aR h)
 have hsz:((w.alloc (.cells dl.toArray 27)).alloc (.cells af 27)).heap.size=w.heap.size+2:=by simp
 have hw0:(w.alloc (.cells dl.toArray 27)).alloc (.cells #[.string ⟨#[]⟩,.string ⟨#[]⟩,.int .u8 0,.bool false,.int .i64 0,.slice none 0 0,.slice none 0 0,.slice none 0 0] 27)=(w.alloc (.cells dl.toArray 27)).alloc (.cells af 27):=rfl
 generalize (w.alloc (.cells dl.toArray 27)).alloc (.cells af 27)=W0 at *
 have HW0:=h_ hw0
 have HSZ:=h_ hsz
 have HK1:=h_ hk1
 have HK2:=h_ hk2
 have HT0:=h_ (fun(w2 w3:e_) (h:fq (w.heap.size+2) W0 w2) (h3:fq w2.heap.size w2 w3)=>(h.trans (h3.mono (by have:=h.size;rw [HSZ.out] at this;exact this)):fq (w.heap.size+2) W0 w3))
 have HR1:=h_ (fun(w1:e_) (h:fq (w.heap.size+2) W0 w1)=>ay ((h.block w.heap.size (by omega)).trans HK1.out))
 clear hw0 hsz hk1 hk2
 go_enter Tryz.func14,Tryz.ntmps14
 go_upto_region 1 with fail
 rw [HW0.out]
 go_wp2_with (refine fb rfl 27 (.tmp 2) rfl w.heap.size 0 rfl dl _ (HR1.out _ hb0) fz rfl HDI.out ?_)
 refine(HCK0.out _ (HB.out _ hb0)).mono ?_
 rintro e w1 ⟨rfl,hb1⟩
 have hc1:=HT0.out _ _ hb0 hb1
 have HZ5:=h_ ((hc1.block (w.heap.size+1) (by omega)).trans HK2.out)
 have HE:=h_ (HBAD.out w1 af (HB.out _ hc1))
 have cz:∀ (j:Nat),(w1.setRow (w.heap.size+1) af).cell? ⟨w.heap.size+1,j,none⟩=af[j]?:=fun j=>fg _ _ _ _ _ _ _ HZ5.out
 simp only [af] at cz
 clear hb1 HCK0 HR1 hb0
 go_wp2_with (refine ff rfl 27 (.tmp 4) (.tmp 15) rfl (w.heap.size+1) #[.string ⟨#[]⟩,.string ⟨#[]⟩,.int .u8 0,.bool false,.int .i64 0,.slice none 0 0,.slice none 0 0,.slice none 0 0] rfl rfl 27 _ HZ5.out aI rfl cN ?_)
 refine fi (v:=.tuple #[.agg af,.int .i64 ERR]) (by simp [results,Tryz.results14,go_sem,af,cz]) rfl HE.out
theorem zgV (d:Doc)(a:Option Addr)(cap m n:Nat)(l:List ChgC)(w:e_)(hE:Env w)(hd:d.lies w)(hf:d.fits)(h0:az d≠0) :
 fk fy 15 #[.agg d.enc.toArray,.slice a m cap] w (cY d.c l n w):=by
 have hpe:bC d.c l=az d:=by
  unfold bC
  rw [if_neg (by rw [←dZ];exact h0),dZ]
 have HBAD:=h_ (fun(w5:e_) (cs:Array fh) (h:fq w.heap.size w w5)=>zgb (d:=d.c) (l:=l) (n:=n) (w:=w) (w':=w5.setRow (w.heap.size+1) cs) hpe h0 (fj h (by omega) _))
 generalize cY d.c l n w=Q at *
 have HCK0:=h_ (fun(w1:e_) (h:fq w.heap.size w w1)=>dm d w1 (hE.below h (fu _)) (Doc.later hd h) hf)
 generalize az d=ERR at *
 have hne:(ERR != 0)=true:=by simpa using h0
 have HDI:=h_ (show(fy.info? 27).map (·.size)=some d.enc.length from aI)
 clear hE hd hf hpe
 generalize d.enc=dl at *
 have hk1:((w.alloc (.cells dl.toArray 27)).alloc (.cells af 27)).heap[w.heap.size]? =some (.cells dl.toArray 27 (0,0)):=ar (fe w _)
 have hk2:((w.alloc (.cells dl.toArray 27)).alloc (.cells af 27)).heap[w.heap.size+1]? =some (.cells af 27 (0,0)):=aD _ (by simp)
 have hb0:fq (w.heap.size+2) ((w.alloc (.cells dl.toArray 27)).alloc (.cells af 27)) ((w.alloc (.cells dl.toArray 27)).alloc (.cells af 27)):=fr _ _
 have HB:=h_ (fun(w1:e_) (h:fq (w.heap.size+2) ((w.alloc (.cells dl.toArray 27)).alloc (.cells af 27)) w1)=>aR h)
 have hsz:((w.alloc (.cells dl.toArray 27)).alloc (.cells af 27)).heap.size=w.heap.size+2:=by simp
 have hw0:(w.alloc (.cells dl.toArray 27)).alloc (.cells #[.string ⟨#[]⟩,.string ⟨#[]⟩,.int .u8 0,.bool false,.int .i64 0,.slice none 0 0,.slice none 0 0,.slice none 0 0] 27)=(w.alloc (.cells dl.toArray 27)).alloc (.cells af 27):=rfl
 generalize (w.alloc (.cells dl.toArray 27)).alloc (.cells af 27)=W0 at *
 have HW0:=h_ hw0
 have HSZ:=h_ hsz
 have HK1:=h_ hk1
 have HK2:=h_ hk2
 have HT0:=h_ (fun(w2 w3:e_) (h:fq (w.heap.size+2) W0 w2) (h3:fq w2.heap.size w2 w3)=>(h.trans (h3.mono (by have:=h.size;rw [HSZ.out] at this;exact this)):fq (w.heap.size+2) W0 w3))
 have HR1:=h_ (fun(w1:e_) (h:fq (w.heap.size+2) W0 w1)=>ay ((h.block w.heap.size (by omega)).trans HK1.out))
 clear hw0 hsz hk1 hk2
 go_enter fL,fK
 go_upto_region 1 with fail
 rw [HW0.out]
 go_wp2_with (refine fb rfl 27 (.tmp 2) rfl w.heap.size 0 rfl dl _ (HR1.out _ hb0) fz rfl HDI.out ?_)
 refine(HCK0.out _ (HB.out _ hb0)).mono ?_
 rintro e w1 ⟨rfl,hb1⟩
 have hc1:=HT0.out _ _ hb0 hb1
 have HZ5:=h_ ((hc1.block (w.heap.size+1) (by omega)).trans HK2.out)
 have HE:=h_ (HBAD.out w1 af (HB.out _ hc1))
 have cz:∀ (j:Nat),(w1.setRow (w.heap.size+1) af).cell? ⟨w.heap.size+1,j,none⟩=af[j]?:=fun j=>fg _ _ _ _ _ _ _ HZ5.out
 simp only [af] at cz
 clear hb1 HCK0 HR1 hb0
 go_wp2_with (refine ff rfl 27 (.tmp 4) (.tmp 16) rfl (w.heap.size+1) #[.string ⟨#[]⟩,.string ⟨#[]⟩,.int .u8 0,.bool false,.int .i64 0,.slice none 0 0,.slice none 0 0,.slice none 0 0] rfl rfl 27 _ HZ5.out aI rfl cN ?_)
 refine fi (v:=.tuple #[.agg af,.int .i64 ERR]) (by simp [results,fC,go_sem,af,cz]) rfl HE.out
theorem zdW (d:Doc)(a:Option Addr)(cap n:Nat)(xs:List Chg)(w:e_)(hE:Env w)(hd:d.lies w)(hf:d.fits)(hn:400≤n)(hl:n+xs.length≤4000000)(hx:zez w a xs)(hc:∀ x∈xs,x.c.full) :
 fk fy 14 #[.agg d.enc.toArray,.slice a xs.length cap] w (cY d.c (xs.map Chg.c) (n+xs.length) w):=by
 by_cases h0:az d=0
 · have hlen:=ziR h0
   have hok:=zmy h0
   have hfc:d.c.fits n:=Doc.fits.c hf (by omega) (by omega) (by omega)
   refine(zdV (PSt d.c (xs.map Chg.c) n) (fun err=>bC d.c (xs.map Chg.c)=err) d a cap xs w hE hd hf h0 hx (by omega) (fun d' h=>⟨fw _,by rw [h];exact hok,by rw [h];exact hfc,by rw [h,fO]⟩) (fun k d' h=>h.2.2.1.doc (by have:=h.1;rw [fN] at this;omega)) (fun d' h _=>zkF h0 h) (fun k x d' g w' hk hS hD hxl=>?_)).mono fun e w' p=>zki h0 e w' p
   have hkc:(xs.map Chg.c)[k]? =some x.c:=by rw [fQ,hk];rfl
   have hkl:=(fM.1 hk).1
   have hfx:=hc x (fP hk)
   refine(zit d' g x (n+k) w' hS.2.1 hS.2.2.1 (by omega) hfx hD hxl).mono fun e w'' p=>?_
   obtain⟨err,d2,rfl,p1,p2,p3,p4⟩:=p
   have:=hS.step (d2:=d2) hkc hfx p4.1 p4.2
   exact⟨err,d2,rfl,p1,p2,p3,this.1,fun hne=>zlH h0 (this.2 hne) hne⟩
 · exact zj4 d a cap xs.length _ _ w hE hd hf h0
theorem zbI (d:Doc)(a:Option Addr)(cap n:Nat)(xs:List Chg)(w:e_)(hE:Env w)(hd:d.lies w)(hf:d.fits)(hn:400≤n)(hl:n+xs.length≤4000000)(hx:zez w a xs)(hc:∀ x∈xs,x.c.full) :
 fk fy 15 #[.agg d.enc.toArray,.slice a xs.length cap] w (cY d.c (xs.map Chg.c) (n+xs.length) w):=by
 by_cases h0:az d=0
 · have hlen:=ziR h0
   have hok:=zmy h0
   have hfc:d.c.fits n:=Doc.fits.c hf (by omega) (by omega) (by omega)
   refine(zhU (PSt d.c (xs.map Chg.c) n) (fun err=>bC d.c (xs.map Chg.c)=err) d a cap xs w hE hd hf h0 hx (by omega) (fun d' h=>⟨fw _,by rw [h];exact hok,by rw [h];exact hfc,by rw [h,fO]⟩) (fun k d' h=>h.2.2.1.doc (by have:=h.1;rw [fN] at this;omega)) (fun d' h _=>zkF h0 h) (fun k x d' w' hk hS hD hxl=>?_)).mono fun e w' p=>zki h0 e w' p
   have hkc:(xs.map Chg.c)[k]? =some x.c:=by rw [fQ,hk];rfl
   have hkl:=(fM.1 hk).1
   have hfx:=hc x (fP hk)
   refine(zeJ d' x (n+k) w' hS.2.1 hS.2.2.1 (by omega) hfx hD hxl).mono fun e w'' p=>?_
   obtain⟨d2,rfl,p1,p2,p3,p4⟩:=p
   have:=hS.step (d2:=d2) hkc hfx rfl p1
   exact⟨_,d2,rfl,p2,p3,p4,this.1,fun hne=>zlH h0 (this.2 hne) hne⟩
 · exact zgV d a cap xs.length _ _ w hE hd hf h0
theorem zdp (Aw:e_→Prop)(HAW:∀ w,Aw w→fk fy 10 #[] w (fun e w'=>e=.returned (.bool true)∧fq w.heap.size w w'))(hAB:∀ w w',Aw w→fq w.heap.size w w'→Aw w')(d:Doc)(a:Option Addr)(cap:Nat)(xs:List Chg)(w:e_)(hE:Env w)(hA:Aw w)(hd:d.lies w)(hf:d.fits)(hx:zez w a xs)(hc:∀ x∈xs,x.c.full)(hl:xs.length≤2000000) :
 fk fy 4 #[.agg d.enc.toArray,.slice a xs.length cap] w fun e w'=>e=.returned (.bool true)∧fq w.heap.size w w':=by
 generalize hQ:(fun(e:Ending) (w':e_)=>e=.returned (.bool true)∧fq w.heap.size w w')=Q
 have HQ:=h_ (fun w' (hb:fq w.heap.size w w')=>show Q (.returned (.bool true)) w' from hQ▸⟨rfl,hb⟩)
 clear hQ
 have HA:=h_ (fun(w1:e_) (h:fq w.heap.size w w1)=>HAW w1 (hAB w w1 hA h))
 have HP:=h_ (fun(w1:e_) (h:fq w.heap.size w w1)=>zdW d a cap 400 xs w1 (hE.below h (fu _)) (Doc.later hd h) hf (fu _) (by omega) (ab.keeps Chg.keeps _ _ _ _ h hx) hc)
 have HR:=h_ (fun(w1:e_) (h:fq w.heap.size w w1)=>zbI d a cap 400 xs w1 (hE.below h (fu _)) (Doc.later hd h) hf (fu _) (by omega) (ab.keeps Chg.keeps _ _ _ _ h hx) hc)
 have HS:=h_ (fun(d2 d3:Doc) (w1:e_) (h2:d2.lies w1) (h3:d3.lies w1) (he:d2.c=d3.c) (hf:d2.c.fits (400+xs.length))=>zdR d2 d3 w1 h2 h3 he (fun z hz=>⟨((hf.doc (by omega)).2.2.2.2.2.2.2.1 z hz).2.2.2.2.2.2.2.2,fun r hr=>(((hf.doc (by omega)).2.2.2.2.2.2.2.1 z hz).2.2.2.2.2.2.2.1 r hr).2.1⟩) (hf.doc (by omega)).2.2.2.2.2.2.1 (hf.doc (by omega)).2.2.2.2.2.2.2.2.1 (hf.doc (by omega)).2.2.2.2.2.2.2.2.2.2)
 unfold cY at HP HR
 generalize bC d.c (xs.map Chg.c)=ERR at *
 generalize zdz d.c (xs.map Chg.c)=RD at *
 have HDI:=h_ (show(fy.info? 27).map (·.size)=some d.enc.length from aI)
 generalize d.enc=dl at *
 have hk0:=fe w (.cells dl.toArray 27)
 have hb0:fq (w.heap.size+1) (w.alloc (.cells dl.toArray 27)) (w.alloc (.cells dl.toArray 27)):=fr _ _
 have hsz:(w.alloc (.cells dl.toArray 27)).heap.size=w.heap.size+1:=e_.size_alloc _ _
 have HB:=h_ (fun(w1:e_) (h:fq (w.heap.size+1) (w.alloc (.cells dl.toArray 27)) w1)=>aq h)
 generalize hW0:w.alloc (.cells dl.toArray 27)=W0 at *
 have HW0:=h_ hW0
 have HSZ:=h_ hsz
 have HT0:=h_ (fun(w2 w3:e_) (h:fq (w.heap.size+1) W0 w2) (h3:fq w2.heap.size w2 w3)=>(h.trans (h3.mono (by have:=h.size;rw [HSZ.out] at this;exact this)):fq (w.heap.size+1) W0 w3))
 have HRG:=h_ (fun(w1:e_) (h:fq (w.heap.size+1) W0 w1)=>ay ((h.block w.heap.size (by omega)).trans hk0))
 clear hW0 hsz hk0 hd hE hA hf hx hc HAW hAB
 go_enter fF,Tryz.ntmps4
 go_upto_region 1 with fail
 rw [HW0.out]
 go_wp2_with fail
 refine(HA.out _ (HB.out _ hb0)).mono ?_
 rintro e w1 ⟨rfl,hb1⟩
 have hc1:=HT0.out _ _ hb0 hb1
 clear hb1 HA
 go_wp2_with (refine fb rfl 27 (.tmp 2) rfl w.heap.size 0 rfl dl _ (HRG.out _ hc1) fz rfl HDI.out ?_)
 refine(HP.out _ (HB.out _ hc1)).mono ?_
 rintro e w2 ⟨d2,rfl,h2c,h2l,h2f,hb2⟩
 have hc2:=HT0.out _ _ hc1 hb2
 have HK2:=h_ (fe w2 (.cells d2.enc.toArray 27))
 have hb3:fq w2.heap.size w2 (w2.alloc (.cells d2.enc.toArray 27)):=(fr _ _).alloc (fu _) _
 have hc3:=HT0.out _ _ hc2 hb3
 have h2l':=Doc.later h2l hb3
 have HG2:=h_ (show w2.heap.size<(w2.alloc (.cells d2.enc.toArray 27)).heap.size by simp)
 have HS2:=h_ (fun(d3:Doc) (w1:e_) (h2:d2.lies w1) (h3:d3.lies w1) (he:d3.c=RD)=>HS.out d2 d3 w1 h2 h3 (h2c.trans he.symm) h2f)
 have H2L:=h_ h2l'
 have HC3:=h_ hc3
 clear hb2 hc1 hc2 h2c h2f h2l h2l' hb3 hc3 hb0 HP HS
 obtain⟨t2,l2,r2,p2,s2,ra2,rc2,regs2,ea2,ec2,evs2,ca2,cc2,cms2⟩:=d2
 simp only [Doc.enc] at *
 go_upto_region 4 with fail
 generalize w2.alloc (.cells #[fR t2,.string l2,.int .u8 r2,.bool p2,.int .i64 s2,.slice ra2 regs2.length rc2,.slice ea2 evs2.length ec2,.slice ca2 cms2.length cc2] 27)=w3 at *
 go_wp2_with (refine fb rfl 27 (.tmp 2) rfl w.heap.size 0 rfl dl _ (HRG.out _ HC3.out) fz rfl HDI.out ?_)
 refine(HR.out _ (HB.out _ HC3.out)).mono ?_
 rintro e w4 ⟨d3,rfl,h3c,h3l,h3f,hb4⟩
 have hc4:=HT0.out _ _ HC3.out hb4
 have hb5:fq w4.heap.size w4 (w4.alloc (.cells d3.enc.toArray 27)):=(fr _ _).alloc (fu _) _
 have HK2':=h_ (((hb4.trans (hb5.mono hb4.size)).block w2.heap.size HG2.out).trans HK2.out)
 have HK3:=h_ (fe w4 (.cells d3.enc.toArray 27))
 have HSS:=h_ (HS2.out d3 (w4.alloc (.cells d3.enc.toArray 27)) (Doc.later H2L.out (hb4.trans (hb5.mono hb4.size))) (Doc.later h3l hb5) h3c)
 have HC5:=h_ (HT0.out _ _ hc4 hb5)
 clear hb4 hc4 h3c h3f h3l hb5 HR HS2
 obtain⟨t3,l3,r3,p3,s3,ra3,rc3,regs3,ea3,ec3,evs3,ca3,cc3,cms3⟩:=d3
 simp only [Doc.enc] at *
 go_upto_region 5 with fail
 generalize w4.alloc (.cells #[fR t3,.string l3,.int .u8 r3,.bool p3,.int .i64 s3,.slice ra3 regs3.length rc3,.slice ea3 evs3.length ec3,.slice ca3 cms3.length cc3] 27)=w5 at *
 have c2:∀ (j:Nat),w5.cell? ⟨w2.heap.size,j,none⟩=(#[fR t2,.string l2,.int .u8 r2,.bool p2,.int .i64 s2,.slice ra2 regs2.length rc2,.slice ea2 evs2.length ec2,.slice ca2 cms2.length cc2]:Array fh)[j]?:=fun j=>cell_of_row _ _ j _ 27 (0,0) HK2'.out
 have c3:∀ (j:Nat),w5.cell? ⟨w4.heap.size,j,none⟩=(#[fR t3,.string l3,.int .u8 r3,.bool p3,.int .i64 s3,.slice ra3 regs3.length rc3,.slice ea3 evs3.length ec3,.slice ca3 cms3.length cc3]:Array fh)[j]?:=fun j=>cell_of_row _ _ j _ 27 (0,0) HK3.out
 go_wp2_with fail
 refine HSS.out.mono ?_
 rintro e w6 ⟨rfl,hb6⟩
 have HE:=h_ (HQ.out _ (HB.out _ (HT0.out _ _ HC5.out hb6)))
 clear hb6 HSS
 go_wp2_with fail
 exact HE.out
end Go.Proofs.YtnlnmbcaongehaaGreatDoor
namespace Go.Proofs.YtnlnmbcaongehaaGreatDoor
open Go.RowKit Go.ChangeShapes Go.WideShapes Go.Deep
theorem zmn {α:Type} {l:List α} (h:l.length=13):∃ a0 a1 a2 a3 a4 a5 a6 a7 a8 a9 a10 a11 a12,l=[a0,a1,a2,a3,a4,a5,a6,a7,a8,a9,a10,a11,a12]:=by
 obtain _|⟨a0,l⟩:=l
 · simp at h
 obtain _|⟨a1,l⟩:=l
 · simp at h
 obtain _|⟨a2,l⟩:=l
 · simp at h
 obtain _|⟨a3,l⟩:=l
 · simp at h
 obtain _|⟨a4,l⟩:=l
 · simp at h
 obtain _|⟨a5,l⟩:=l
 · simp at h
 obtain _|⟨a6,l⟩:=l
 · simp at h
 obtain _|⟨a7,l⟩:=l
 · simp at h
 obtain _|⟨a8,l⟩:=l
 · simp at h
 obtain _|⟨a9,l⟩:=l
 · simp at h
 obtain _|⟨a10,l⟩:=l
 · simp at h
 obtain _|⟨a11,l⟩:=l
 · simp at h
 obtain _|⟨a12,l⟩:=l
 · simp at h
 obtain _|⟨b,l⟩:=l
 · exact⟨a0,a1,a2,a3,a4,a5,a6,a7,a8,a9,a10,a11,a12,rfl⟩
 · simp at h
theorem eW (cs:List fh)(off k:Nat):cs.drop off=(cs.drop off).take k++cs.drop (off+k):=by
 rw [←List.drop_drop]
 exact(List.take_append_drop k _).symm
section
variable {H:Type} {enc:fo × fh→H} {w:e_} {base:Nat} {sp:Nat→Bool} {held:Bool}
theorem c39:fy.cellsOf 39=1:=by kernel_rfl
theorem c41:fy.cellsOf 41=5:=by kernel_rfl
theorem c54:fy.cellsOf 54=59:=by kernel_rfl
theorem zj0:Reads enc w base sp held 41 Hd.enc Flat Hd.fits (fun _=>0):=by
 intro fuel cs x h hb
 obtain⟨ys,n,rfl,hx,hlen,hyl,hf⟩:=fY Tryz.underlying41 h
 rw [c41] at hlen
 obtain⟨v0,v1,v2,v3,v4,rfl⟩:=zlT hlen
 obtain⟨y0,y1,y2,y3,y4,rfl⟩:=zlT hyl
 have g0:=hf 0 _ rfl;have g1:=hf 1 _ rfl;have g2:=hf 2 _ rfl;have g3:=hf 3 _ rfl;have g4:=hf 4 _ rfl
 simp [c9,c23,c4,c2] at g0 g1 g2 g3 g4
 obtain⟨s0,e0,q0,_⟩:=fW fE g0
 obtain⟨s1,e1,q1,_⟩:=fW fE g1
 obtain⟨z2,e2,_,w2⟩:=fV Tryz.underlying22 g2
 obtain⟨z3,e3,_⟩:=fX fB g3
 obtain⟨z4,e4,_,w4⟩:=fV fI g4
 simp at e0 e1 e2 e3 e4
 subst e0 e1 e2 e3 e4
 have k0:=aO hx (y:=y0) (by simp)
 have k1:=aO hx (y:=y1) (by simp)
 have l0:=cF q0
 have l1:=cF q1
 exact⟨⟨s0,s1,z2,z3,z4⟩,rfl,trivial,⟨by simp only;omega,by simp only;omega,(zdF w2).1,(zdF w2).2,eI w4⟩,fw _⟩
theorem zld:Reads enc w base sp held 54 Chg.enc Chg.lies (fun x=>x.c.full) (fun _=>0):=by
 intro fuel cs x h hb
 obtain⟨ys,n,rfl,hx,hlen,hyl,hf⟩:=fY fD h
 rw [c54] at hlen
 obtain⟨y0,y1,y2,y3,y4,y5,y6,y7,y8,y9,y10,y11,y12,rfl⟩:=zmn hyl
 have k0:=aO hx (y:=y0) (by simp)
 have k1:=aO hx (y:=y1) (by simp)
 have k2:=aO hx (y:=y2) (by simp)
 have k3:=aO hx (y:=y3) (by simp)
 have k4:=aO hx (y:=y4) (by simp)
 have k5:=aO hx (y:=y5) (by simp)
 have k6:=aO hx (y:=y6) (by simp)
 have k7:=aO hx (y:=y7) (by simp)
 have k8:=aO hx (y:=y8) (by simp)
 have k9:=aO hx (y:=y9) (by simp)
 have k10:=aO hx (y:=y10) (by simp)
 have k11:=aO hx (y:=y11) (by simp)
 have k12:=aO hx (y:=y12) (by simp)
 have g0:fU enc fy w base sp held n 39 ((cs.drop 0).take 1)=some y0:=(congrArg (fun q=>fU enc fy w base sp held n 39 ((cs.drop 0).take q)) c39).symm.trans (hf 0 _ rfl)
 have g1:fU enc fy w base sp held n 2 ((cs.drop 1).take 1)=some y1:=(congrArg (fun q=>fU enc fy w base sp held n 2 ((cs.drop 1).take q)) c2).symm.trans (hf 1 _ rfl)
 have g2:fU enc fy w base sp held n 9 ((cs.drop 2).take 1)=some y2:=(congrArg (fun q=>fU enc fy w base sp held n 9 ((cs.drop 2).take q)) c9).symm.trans (hf 2 _ rfl)
 have g3:fU enc fy w base sp held n 4 ((cs.drop 3).take 1)=some y3:=(congrArg (fun q=>fU enc fy w base sp held n 4 ((cs.drop 3).take q)) c4).symm.trans (hf 3 _ rfl)
 have g4:fU enc fy w base sp held n 4 ((cs.drop 4).take 1)=some y4:=(congrArg (fun q=>fU enc fy w base sp held n 4 ((cs.drop 4).take q)) c4).symm.trans (hf 4 _ rfl)
 have g5:fU enc fy w base sp held n 41 ((cs.drop 5).take 5)=some y5:=(congrArg (fun q=>fU enc fy w base sp held n 41 ((cs.drop 5).take q)) c41).symm.trans (hf 5 _ rfl)
 have g6:fU enc fy w base sp held n 41 ((cs.drop 10).take 5)=some y6:=(congrArg (fun q=>fU enc fy w base sp held n 41 ((cs.drop 10).take q)) c41).symm.trans (hf 6 _ rfl)
 have g7:fU enc fy w base sp held n 44 ((cs.drop 15).take 7)=some y7:=(congrArg (fun q=>fU enc fy w base sp held n 44 ((cs.drop 15).take q)) c101).symm.trans (hf 7 _ rfl)
 have g8:fU enc fy w base sp held n 44 ((cs.drop 22).take 7)=some y8:=(congrArg (fun q=>fU enc fy w base sp held n 44 ((cs.drop 22).take q)) c101).symm.trans (hf 8 _ rfl)
 have g9:fU enc fy w base sp held n 50 ((cs.drop 29).take 7)=some y9:=(congrArg (fun q=>fU enc fy w base sp held n 50 ((cs.drop 29).take q)) c60).symm.trans (hf 9 _ rfl)
 have g10:fU enc fy w base sp held n 50 ((cs.drop 36).take 7)=some y10:=(congrArg (fun q=>fU enc fy w base sp held n 50 ((cs.drop 36).take q)) c60).symm.trans (hf 10 _ rfl)
 have g11:fU enc fy w base sp held n 52 ((cs.drop 43).take 8)=some y11:=(congrArg (fun q=>fU enc fy w base sp held n 52 ((cs.drop 43).take q)) c116).symm.trans (hf 11 _ rfl)
 have g12:fU enc fy w base sp held n 52 ((cs.drop 51).take 8)=some y12:=(congrArg (fun q=>fU enc fy w base sp held n 52 ((cs.drop 51).take q)) c116).symm.trans (hf 12 _ rfl)
 obtain⟨z0,e0,_,w0⟩:=fV Tryz.underlying39 g0
 obtain⟨z1,e1,_,w1⟩:=fV fI g1
 obtain⟨s2,e2,q2,_⟩:=fW fE g2
 obtain⟨z3,e3,_⟩:=fX fB g3
 obtain⟨z4,e4,_⟩:=fX fB g4
 obtain⟨oh,e5,_,f5,_⟩:=zj0 _ _ y5 g5 (by omega)
 obtain⟨nh,e6,_,f6,_⟩:=zj0 _ _ y6 g6 (by omega)
 obtain⟨rg,e7,_,f7,_⟩:=zfZ _ _ y7 g7 (by omega)
 obtain⟨nr,e8,_,f8,_⟩:=zfZ _ _ y8 g8 (by omega)
 obtain⟨oe,e9,l9,f9,_⟩:=zhX _ _ y9 g9 (by omega)
 obtain⟨ne,e10,l10,f10,_⟩:=zhX _ _ y10 g10 (by omega)
 obtain⟨oc,e11,_,f11,_⟩:=zhY _ _ y11 g11 (by omega)
 obtain⟨nc,e12,_,f12,_⟩:=zhY _ _ y12 g12 (by omega)
 have l2:=cF q2
 have h0:cs.drop 0=(cs.drop 0).take 1++cs.drop 1:=eW cs 0 1
 have h1:cs.drop 1=(cs.drop 1).take 1++cs.drop 2:=eW cs 1 1
 have h2:cs.drop 2=(cs.drop 2).take 1++cs.drop 3:=eW cs 2 1
 have h3:cs.drop 3=(cs.drop 3).take 1++cs.drop 4:=eW cs 3 1
 have h4:cs.drop 4=(cs.drop 4).take 1++cs.drop 5:=eW cs 4 1
 have h5:cs.drop 5=(cs.drop 5).take 5++cs.drop 10:=eW cs 5 5
 have h6:cs.drop 10=(cs.drop 10).take 5++cs.drop 15:=eW cs 10 5
 have h7:cs.drop 15=(cs.drop 15).take 7++cs.drop 22:=eW cs 15 7
 have h8:cs.drop 22=(cs.drop 22).take 7++cs.drop 29:=eW cs 22 7
 have h9:cs.drop 29=(cs.drop 29).take 7++cs.drop 36:=eW cs 29 7
 have h10:cs.drop 36=(cs.drop 36).take 7++cs.drop 43:=eW cs 36 7
 have h11:cs.drop 43=(cs.drop 43).take 8++cs.drop 51:=eW cs 43 8
 have h12:cs.drop 51=(cs.drop 51).take 8++cs.drop 59:=eW cs 51 8
 have hend:cs.drop 59=[]:=List.drop_eq_nil_of_le (by omega)
 have e0x:(cs.drop 0).take 1=[.int .u8 z0]:=e0
 have e1x:(cs.drop 1).take 1=[.int .i64 z1]:=e1
 have e2x:(cs.drop 2).take 1=[.string s2]:=e2
 have e3x:(cs.drop 3).take 1=[.bool z3]:=e3
 have e4x:(cs.drop 4).take 1=[.bool z4]:=e4
 have e5x:(cs.drop 5).take 5=oh.enc:=e5
 have e6x:(cs.drop 10).take 5=nh.enc:=e6
 have e7x:(cs.drop 15).take 7=rg.enc:=e7
 have e8x:(cs.drop 22).take 7=nr.enc:=e8
 have e9x:(cs.drop 29).take 7=oe.enc:=e9
 have e10x:(cs.drop 36).take 7=ne.enc:=e10
 have e11x:(cs.drop 43).take 8=oc.enc:=e11
 have e12x:(cs.drop 51).take 8=nc.enc:=e12
 rw [fO] at h0
 rw [h1,h2,h3,h4,h5,h6,h7,h8,h9,h10,h11,h12,hend,e1x,e2x,e3x,e4x,e5x,e6x,e7x,e8x,e9x,e10x,e11x,e12x] at h0
 rw [fO] at e0x
 rw [e0x] at h0
 refine⟨⟨z0,z1,s2,z3,z4,oh,nh,rg,nr,oe,ne,oc,nc⟩,?_,⟨l9,l10⟩,⟨(zdF w0).1,eI w1,by show s2.size≤4000000;omega,f6,f8,(Ev.fits_c oe).2 f9,(Ev.fits_c ne).2 f10,f12⟩,fw _⟩
 rw [h0]
 simp [Chg.enc]
theorem zj1 (fuel:Nat)(cs:List fh)(x:DataW H × List MemPlace)(h:fU enc fy w base sp held fuel 29 cs=some x)(hb:gg x.1≤1048576) :
 ∃ (a:Option Addr) (xs:List Chg) (cap:Nat),cs=[.slice a xs.length cap]∧zez w a xs∧(∀ y∈xs,y.c.full)∧xs.length≤gg x.1:=by
 obtain⟨a,xs,cap,e,hS,hF,hL,_⟩:=dp fH c54 (by decide) Chg.len zld fuel cs x h hb
 exact⟨a,xs,cap,e,hS,hF,hL⟩
end
end Go.Proofs.YtnlnmbcaongehaaGreatDoor
namespace Go.Proofs.YtnlnmbcaongehaaGreatDoor.diffApplies
open Go.Shelf Go.ChangeShapes Go.WideShapes Go.ChangeAt Go.RowKit Go.Lib
open Go.Proofs.YtnlnmbcaongehaaGreatDoor.diffSeat (own laidOut laidWorld laid_met env_of zd)
theorem bound {H:Type} {l:List (DataW H)} (hk:gf H l=true):gd l≤1048576:=of_decide_eq_true hk
theorem zmi {P:Program} {W:e_} {r:Reach} {base len cap:Nat} {t e:fo} {a:Option Addr} (ht:P.underlying t=some (.slice e))(h:fS P W r base t (.slice a len cap)):len≤cap:=by
 simp only [fS,ht,Cell.okWide] at h
 cases a with
 | none =>
   by_cases hl:len=0
   · omega
   · obtain⟨n,rfl⟩:∃ n,len=n+1:=⟨len-1,by omega⟩
     simp only [Cell.ok,ht] at h
 | some a=>simp only [Cell.ok,ht] at h;exact h.1
def wargs:Array fh:=#[.agg zd,.slice none 0 0]
theorem contract (H:Type)(enc:fo × fh→H)(F:Stop.Interp)(W:e_)(base:Nat)(args:Array fh)(ds gs:List (DataW H))(before:List MemPlace)
 (hval:∀ (j:Nat) t v,fA.params[j]? =some t→args[j]? =some v→fS fy W .any base t v)
 (hW:DataW.Whole enc fy fA.params.toList (gh gb).vars false W args.toList ds gs before) (hk:gf H (ds++gs)=true) (hE:Aw W) :
 fk fy 4 args W fun e W'=>∃ v,e=.returned v∧((gh gb).at F).post enc fy fA false true false false W args v W':=by
 have hW':=hW
 obtain⟨p,q,hA0,hV,rfl,hfz,hnd⟩:=hW
 have hA:DataW.TrodAll enc fy W 0 (fun _=>true) true fA.params.toList args.toList ds p:=hA0
 rw [fJ] at hA hval
 obtain⟨v0,vs0,d0,ds0,p0,q0,hargs,rfl,rfl,h0,r0⟩:=trodAll_cons hA
 obtain⟨v1,vs1,d1,ds1,p1,q1,rfl,rfl,rfl,h1,r1⟩:=trodAll_cons r0
 obtain⟨rfl,rfl,rfl⟩:=trodAll_nil r1
 obtain rfl:args=#[v0,v1]:=by cases args;simp_all
 obtain⟨rfl,rfl⟩:=trodVars_none hV
 have hbk:=bound hk
 simp only [List.append_nil,gd] at hbk
 have k0:=h0
 have lt0:∀ x∈p0,x.block<W.heap.size:=by obtain⟨m,hm⟩:=k0;exact fZ m _ _ _ hm
 obtain⟨f0,t0⟩:=h0
 have k1:=h1
 have lt1:∀ x∈p1,x.block<W.heap.size:=by obtain⟨m,hm⟩:=k1;exact fZ m _ _ _ hm
 obtain⟨f1,t1⟩:=h1
 obtain⟨c0,rfl,hc0⟩:=okWide_struct fz (hval 0 27 v0 rfl rfl)
 obtain⟨d,e0,l0,g0,_⟩:=zlc f0 _ (d0,p0) t0 (by simp only;omega)
 simp [fT] at e0
 have e0':c0=d.enc.toArray:=by rw [←e0]
 subst e0'
 obtain⟨a1,len1,cap1,rfl⟩:=okWide_slice fH (hval 1 29 v1 rfl rfl)
 obtain⟨A1,xs,C1,e1,l1,g1,n1⟩:=zj1 f1 _ (d1,p1) t1 (by simp only;omega)
 simp [fT] at e1
 obtain⟨rfl,rfl,rfl⟩:=e1
 clear hA0
 refine(zdp Aw zis (fun w w' h hb=>h.below hb) d a1 cap1 xs W hE.1 hE l0 g0 l1 g1 (by simp only at n1;omega)).mono fun e W' ⟨he,bel⟩=>?_
 subst he
 exact⟨_,rfl,_,_,_,[],_,[],hW',trodAll_mk1 (shut_bool fB _),(fp (ft laidOut (by kernel_rfl) (of_decide_eq_true (by kernel_rfl)) k0 bel lt0) (fp (ft laidOut (by kernel_rfl) (of_decide_eq_true (by kernel_rfl)) k1 bel lt1) trodAll_mk0)),rfl,bel.frame _,fun h=>by cases h⟩
def zdoc {H:Type}:DataW H:=.agg [.lit (.string []),.lit (.string []),.lit (.int .u8 0),.lit (.bool false),.lit (.int .i64 0),.nil,.nil,.nil]
theorem wreads (os:Os) {H:Type} (enc:fo × fh→H):∃ places,f_ enc fy ((laidWorld os).forCall (fun _ _=>0) ⟨#[],wargs,[]⟩).memory fA.params.toList (gh gb).vars false wargs.toList 8=some ([zdoc,.nil],[],places):=by
 have hw:(f_ enc fy ((laidWorld os).forCall (fun _ _=>0) ⟨#[],wargs,[]⟩).memory fA.params.toList (gh gb).vars false wargs.toList 8).map (fun x=>(x.1,x.2.1))=some ([zdoc,.nil],[]):=by kernel_rfl
 obtain⟨⟨x1,x2,x3⟩,hx,hx1⟩:=Option.map_eq_some_iff.1 hw
 simp only [Prod.mk.injEq] at hx1
 obtain⟨rfl,rfl⟩:=hx1
 exact⟨x3,hx⟩
theorem zjk (os:Os)(started:os.Started)(H:Type)(enc:fo × fh→H)(F:Stop.Interp) :
 ReturnsInHanded {} fG os 4 .any ((gh gb).preRow enc fy fA ga.domain false ga.laid) (((gh gb).at F).post enc fy fA false true false false):=by
 obtain⟨places,hx⟩:=wreads os enc
 refine returnsInHanded_of_row (C:=fG) (s:=gh gb) own started (by kernel_rfl) fF
  (witness_row_at (enc:=enc) (C:=fG) false (laidWorld os) wargs rfl (by kernel_rfl) (by kernel_rfl) (by kernel_rfl)
   (OpenSpec.preRow_of_cond 8 hx (by kernel_rfl) (fun k hk=>by cases hk;kernel_rfl) (by kernel_rfl) (laid_met os _))) ?_
 intro W base args ds gs before hval hW _ hcond _ hL hS _
 exact contract H enc F W base args ds gs before hval hW (hcond _ rfl) (env_of hL hS)
theorem zjo:ga.inPlace=fy.inPlace 4:=by kernel_rfl
theorem zbw:fy.unfollowed 4=true:=by kernel_rfl
theorem zhW:fy.recurses 4=true:=by
 unfold Program.recurses
 rw [zbw]
 rfl
theorem zgE:ga.named=fy.varsNamed 4:=by kernel_rfl
theorem zhe:mapsRowed fy=true:=by kernel_rfl
theorem zg3:ga.plainKeys=fy.plainKeys:=by kernel_rfl
theorem joined:joinedFacts fy 4 fA (gh gb).bare ga=true:=by
 unfold joinedFacts
 rw [←zjo,zbw,zhW,←zgE,laidOut,zhe,←zg3]
 refine Eq.trans ?_ (Eq.refl _)
 kernel_rfl
theorem named:Tryz.pinned.checked.prog.funcNamed ga.func=some 4:=by kernel_rfl
theorem zmr:fA.isInstance Tryz.pinned.checked.prog ga.origin ga.targs:=of_decide_eq_true (by kernel_rfl)
theorem zmq:fA.isWrapper Tryz.pinned.checked.prog ga.wrapper ga.mainSum:=by
 unfold Func.isWrapper
 first|(rw [if_pos (by decide +kernel)];kernel_rfl)|(rw [if_neg (by decide +kernel)];exact⟨rfl,rfl⟩)
theorem zk5:Rows.DiffAppliesUptoSaid :=
 OpenClaim.holds_of_cond 4 fA rfl rfl rfl rfl rfl rfl rfl ⟨rfl,rfl,rfl,rfl,rfl⟩ rfl rfl rfl rfl rfl named fF joined zmr zmq
  (fun os started H enc _ F=>by rw [OpenClaim.pre_eq_preRow];exact zjk os started H enc F)
theorem plain (f:FuncId)(fn:Func)(hf:Tryz.pinned.checked.prog.funcNamed "captioner/captionerlaw17.DiffApplies" =some f)(hfn:Tryz.pinned.checked.prog.funcs[f]? =some fn) :
 false=Tryz.pinned.checked.prog.looks []∧∀ (j:Nat) t,fn.params[j]? =some t→Tryz.pinned.checked.prog.wantsStandIn t=false:=by
 obtain rfl:f=4:=Option.some.inj ((show fy.funcNamed "captioner/captionerlaw17.DiffApplies" =some 4 by kernel_rfl).symm.trans hf) |>.symm
 obtain rfl:fn=fA:=(Option.some.inj (fF.symm.trans hfn)).symm
 refine⟨by kernel_rfl,fun j t ht=>?_⟩
 rw [fJ] at ht
 have hm:=Array.mem_of_getElem? ht
 simp at hm
 rcases hm with rfl|rfl
 · exact(show fy.wantsStandIn 27=false by kernel_rfl)
 · exact(show fy.wantsStandIn 29=false by kernel_rfl)
theorem cardUpto:Rows.DiffAppliesUptoCardSaid :=
 Claim7.holds_tied_plain_at .later [] _ _ _ _ zk5 (fun _ h=>by cases h) (by kernel_rfl) (fun _ h=>by cases h) diffAppliesUpto_row_tie rfl ⟨rfl,rfl⟩ (by kernel_rfl) rfl plain (by kernel_rfl)
#print axioms cardUpto
end Go.Proofs.YtnlnmbcaongehaaGreatDoor.diffApplies
