/- The contracts of event.spans, KindName and row: what they return for any span, kind and row. The contract of event.row: the error of a row of an event. The contracts of event.lens and event.Len: the lengths of the rows of any event. The contract of event.Len: the number of characters of any event. The contracts of cmp.Or and event.Less: whether an event is ahead of another one. The contract of event.Check: the first error of an event. -/
import Derived.StillTailTactics
import Derived.Test.YtnlnmbcaongehaaGreatDoorM02
set_option linter.unusedVariables false
set_option linter.unusedSimpArgs false
set_option maxRecDepth 100000
set_option maxHeartbeats 12800000
open Go.Lib renaming hid→h_
open Go renaming World→fm,Value→fp,Calls→ft,cell_of_row→fu,heap_alloc_last→fw
open Go.RowKit renaming Below→fB
open Go.RowKit.Below renaming refl→fC
open Nat renaming le_refl→fD,add_zero→fE,mul_one→fF
open Go.Lib renaming compareInt→fG,contains→fH
open List renaming mem_of_getElem?→fI,drop_length→fJ,drop_zero→fK,getElem?_eq_getElem→fL
open Go.World renaming size_alloc→fM
open Array renaming getElem?_eq_some_iff→fN
open Go.Value renaming int→fO
namespace Go.Proofs.YtnlnmbcaongehaaGreatDoor
open Go.RowKit
def dy (a b:Int):Bool:=decide (0≤a∧a<b∧b≤5184000)
theorem zfL (a b:Int)(w:fm):ft Tryz.prog 154 #[.agg #[.int .i64 a,.int .i64 b]] w fun e w'=>e=.returned (.bool (dy a b))∧fB w.heap.size w w':=by
 rcases(show a<0∨(0≤a∧b≤a)∨(0≤a∧a<b∧5184000<b)∨(0≤a∧a<b∧b≤5184000) by omega) with h|⟨h1,h2⟩|⟨h1,h2,h3⟩|⟨h1,h2,h3⟩
 · have HS:=h_ (show dy a b=false by simp [dy];omega)
   have h':decide (0≤a)=false:=by simp;omega
   go_enter Tryz.func154,Tryz.ntmps154
   go_wp2
   go_ret
   rw [HS.out];exact⟨rfl,(fC _ _).alloc (fD _) _⟩
 · have HS:=h_ (show dy a b=false by simp [dy];omega)
   have h':decide (a<b)=false:=by simp;omega
   go_enter Tryz.func154,Tryz.ntmps154
   go_wp2
   go_ret
   rw [HS.out];exact⟨rfl,(fC _ _).alloc (fD _) _⟩
 · have HS:=h_ (show dy a b=false by simp [dy];omega)
   have h':decide (b≤5184000)=false:=by simp;omega
   go_enter Tryz.func154,Tryz.ntmps154
   go_wp2
   go_ret
   rw [HS.out];exact⟨rfl,(fC _ _).alloc (fD _) _⟩
 · have HS:=h_ (show dy a b=true by simp [dy];omega)
   go_enter Tryz.func154,Tryz.ntmps154
   go_wp2
   go_ret
   rw [HS.out];exact⟨rfl,(fC _ _).alloc (fD _) _⟩
def kindName (k:Int):ByteArray:=if k=1 then ⟨#[68,73,65,76,79,71,85,69]⟩ else if k=2 then ⟨#[83,79,85,78,68]⟩ else if k=3 then ⟨#[84,73,84,76,69]⟩ else if k=4 then ⟨#[77,85,83,73,67]⟩ else ⟨#[]⟩
theorem zdi (k:Int)(w:fm)(h0:0≤k)(h1:k≤255):ft Tryz.prog 155 #[.int .u8 k] w fun e w'=>e=.returned (.string (kindName k))∧fB w.heap.size w w':=by
 rcases(show k<1∨4<k∨k=1∨k=2∨k=3∨k=4 by omega) with h|h|rfl|rfl|rfl|rfl
 · have HK:=h_ (show kindName k=⟨#[]⟩ by unfold kindName;repeat rw [if_neg (by omega)])
   go_enter Tryz.func155,Tryz.ntmps155
   go_wp2
   go_ret
   rw [HK.out];exact⟨rfl,fC _ _⟩
 · have HK:=h_ (show kindName k=⟨#[]⟩ by unfold kindName;repeat rw [if_neg (by omega)])
   go_enter Tryz.func155,Tryz.ntmps155
   go_wp2
   go_ret
   rw [HK.out];exact⟨rfl,fC _ _⟩
 all_goals
  go_enter Tryz.func155,Tryz.ntmps155
  go_wp2
  go_ret
  exact⟨rfl,(fC _ _).alloc (fD _) _⟩
def untidy (t:ByteArray):Bool:=(t.data.toList.isEmpty||(t.data.toList.headD 0).toNat==32)||((t.data.toList.getLastD 0).toNat==32||fH t.data.toList [32,32])
def cH (runs:List Run):Int:=if (zbF runs != 0)=true then zbF runs else if untidy (plain runs)=true then 4 else if 32<rowLen runs then 11 else 0
theorem ziE (s:ByteArray)(h:0<s.size):s.data.toList.getLastD 0=s[s.size-1]:=by
 have hl:s.data.toList.length=s.size:=by simp
 have hne:s.data.toList≠[]:=by intro e;rw [e] at hl;simp at hl;omega
 rw [List.getLastD_eq_getLast?,List.getLast?_eq_getElem?]
 rw [fL (by omega)]
 simp only [Option.getD_some]
 have:s[s.size-1]=s.data.toList[s.size-1]:=rfl
 simp only [this,hl]
theorem zeU (t:ByteArray):(t.size=0∧untidy t=true)∨(∃ h:0<t.size,(t[0].toNat=32∧untidy t=true)∨(t[0].toNat≠32∧t[t.size-1].toNat=32∧untidy t=true)∨(t[0].toNat≠32∧t[t.size-1].toNat≠32∧untidy t=fH t.data.toList [32,32])):=by
 by_cases h:0<t.size
 · refine .inr ⟨h,?_⟩
   have hne:t.data.toList.isEmpty=false:=by
    rw [List.isEmpty_eq_false_iff];intro e
    have hl:t.data.toList.length=t.size:=by simp
    rw [e] at hl;simp at hl;omega
   unfold untidy
   rw [zaS t h,ziE t h,hne]
   by_cases h1:t[0].toNat=32
   · exact .inl ⟨h1,by simp only [h1];simp⟩
   · by_cases h2:t[t.size-1].toNat=32
     · exact .inr (.inl ⟨h1,h2,by simp only [h2];simp⟩)
     · refine .inr (.inr ⟨h1,h2,?_⟩)
       rw [beq_eq_false_iff_ne.2 h1,beq_eq_false_iff_ne.2 h2]
       simp
 · refine .inl ⟨by omega,?_⟩
   have hl:t.data.toList.length=t.size:=by simp
   have:t.data.toList=[]:=List.eq_nil_of_length_eq_zero (by omega)
   unfold untidy
   rw [this]
   rfl
theorem zcM (r:Row)(w:fm)(hE:Env w)(hr:r.lies w)(hf:r.fits) :
 ft Tryz.prog 156 #[.agg r.enc.toArray] w fun e w'=>e=.returned (.int .i64 (cH r.runs))∧fB w.heap.size w w':=by
 have hC:=fun w1 h1 h2=>zdd r w1 h1 h2 hf
 have hP:=fun w1 h2=>zcu r w1 h2 hf
 have hL:=fun w1 h1 h2=>zbE r w1 h1 h2 hf
 have hps:(plain r.runs).size≤4000000:=by
  have h2:=hf.2.2
  show(et r.runs).toArray.size≤4000000
  rw [List.size_toArray,dR];exact h2
 obtain⟨a,cap,xs⟩:=r
 simp only [Row.enc,Row.lies] at *
 generalize hG:cH xs=G
 unfold cH at hG
 have hun:=zeU (plain xs)
 generalize zbF xs=E at *
 generalize plain xs=T at *
 generalize rowLen xs=L at *
 generalize hUt:untidy T=UT at *
 have HG:=h_ hG
 generalize hcs:#[fp.slice a xs.length cap]=cs at *
 have f0:=ab w cs 78 0 (.slice a xs.length cap) (by rw [←hcs];rfl)
 have HB:=h_ (fun(w1:fm) (h:fB (w.heap.size+1) (w.alloc (.cells cs 78)) w1)=>aH h)
 have HE:=h_ (fun(w1:fm) (h:fB (w.heap.size+1) (w.alloc (.cells cs 78)) w1)=>hE.below (aH h) (fD _))
 have HR:=h_ (fun(w1:fm) (h:fB (w.heap.size+1) (w.alloc (.cells cs 78)) w1)=>hr.later (aH h))
 have hb0:fB (w.heap.size+1) (w.alloc (.cells cs 78)) (w.alloc (.cells cs 78)):=fC _ _
 have hsz:(w.alloc (.cells cs 78)).heap.size=w.heap.size+1:=fM _ _
 have HC:=h_ hC;have HPn:=h_ hP;have HL:=h_ hL
 generalize hW0:w.alloc (.cells cs 78)=W0 at *
 have HW0:=h_ hW0
 have HSZ:=h_ hsz
 clear hW0 hsz hE hr hC hP hL hG hUt
 go_enter Tryz.func156,Tryz.ntmps156
 subst hcs
 go_wp2_with fail
 rw [HW0.out]
 refine(HC.out _ (HE.out _ hb0) (HR.out _ hb0)).mono ?_
 rintro e w1 ⟨rfl,hb1⟩
 rw [HSZ.out] at hb1
 clear HW0 HC
 cases hE1:E != 0
 · have hE0:E=0:=by simpa using hE1
   rw [hE1] at HG
   clear hE1
   subst hE0
   go_wp2_with fail
   refine(HPn.out _ (HR.out _ hb1)).mono ?_
   rintro e w2 ⟨rfl,hb2⟩
   replace hb2:fB (w.heap.size+1) W0 w2:=hb1.trans (hb2.mono (by have:=hb1.size;rw [HSZ.out] at this;exact this))
   obtain⟨m,hm⟩:=(HE.out _ hb2).2
   clear HPn
   have HCo:=h_ (Tryz.strings_Contains T ⟨#[32,32]⟩ m w2 (by omega) hm)
   clear hm
   rcases hun with⟨ht,hu⟩|⟨ht,⟨h1,hu⟩|⟨h1,h2,hu⟩|⟨h1,h2,hu⟩⟩
   · have t0:T.toList=[]:=(za1 T).1 ht
     have t1:T.toList.isEmpty=true:=by simpa using t0
     have HU:=h_ hu
     clear hu ht
     go_wp2_with fail
     go_ret
     exact⟨ag (by rw [←HG.out,HU.out];rfl),HB.out _ hb2⟩
   · have t0:¬ T.toList=[]:=fun h=>by have:=(za1 T).2 h;omega
     have t1:T.toList.isEmpty=false:=by simpa using t0
     have t2:((T[0].toNat:Int)==32)=true:=by simp only [h1];decide
     have HU:=h_ hu
     clear hu h1
     go_wp2_with fail
     go_ret
     exact⟨ag (by rw [←HG.out,HU.out];rfl),HB.out _ hb2⟩
   · have t0:¬ T.toList=[]:=fun h=>by have:=(za1 T).2 h;omega
     have t1:T.toList.isEmpty=false:=by simpa using t0
     have t2:((T[0].toNat:Int)==32)=false:=by rw [beq_eq_false_iff_ne];omega
     have t3:((T[T.size-1].toNat:Int)==32)=true:=by simp only [h2];decide
     have HU:=h_ hu
     clear hu h1 h2
     go_wp2_with fail
     go_ret
     exact⟨ag (by rw [←HG.out,HU.out];rfl),HB.out _ hb2⟩
   · have t0:¬ T.toList=[]:=fun h=>by have:=(za1 T).2 h;omega
     have t1:T.toList.isEmpty=false:=by simpa using t0
     have t2:((T[0].toNat:Int)==32)=false:=by rw [beq_eq_false_iff_ne];omega
     have t3:((T[T.size-1].toNat:Int)==32)=false:=by rw [beq_eq_false_iff_ne];omega
     have hcc:fH T.data.toList (⟨#[32,32]⟩:ByteArray).data.toList=UT:=by rw [hu]
     have HU:=h_ hu
     rw [hcc] at HCo
     clear hu h1 h2 hcc
     cases UT
     · rw [if_neg (by decide),if_neg (by decide)] at HG
       by_cases hL:32<L
       · rw [if_pos hL] at HG
         go_wp2_with (first
          | (go_at_call 214;refine HCo.out.mono ?_;rintro e w9 ⟨rfl,rfl⟩)
          | (go_at_call 215;refine(HL.out _ (HE.out _ hb2) (HR.out _ hb2)).mono ?_;rintro e w3 ⟨rfl,hb3⟩))
         go_ret
         exact⟨ag HG.out,HB.out _ (hb2.trans (hb3.mono (by have:=hb2.size;rw [HSZ.out] at this;exact this)))⟩
       · rw [if_neg hL] at HG
         have hL':L≤32:=by omega
         go_wp2_with (first
          | (go_at_call 214;refine HCo.out.mono ?_;rintro e w9 ⟨rfl,rfl⟩)
          | (go_at_call 215;refine(HL.out _ (HE.out _ hb2) (HR.out _ hb2)).mono ?_;rintro e w3 ⟨rfl,hb3⟩))
         go_ret
         exact⟨ag HG.out,HB.out _ (hb2.trans (hb3.mono (by have:=hb2.size;rw [HSZ.out] at this;exact this)))⟩
     · rw [if_neg (by decide),if_pos rfl] at HG
       go_wp2_with (go_at_call 214;refine HCo.out.mono ?_;rintro e w9 ⟨rfl,rfl⟩)
       go_ret
       exact⟨ag HG.out,HB.out _ hb2⟩
 · rw [hE1,if_pos rfl] at HG
   go_wp2_with fail
   go_ret
   exact⟨ag HG.out,HB.out _ hb1⟩
structure Ev where
 id:Int
 inn:Int
 out:Int
 region:ByteArray
 kind:Int
 speaker:ByteArray
 at_:Option Addr
 cap:Nat
 rows:List Row
def Ev.enc (x:Ev):List fp:=[.int .i64 x.id,.int .i64 x.inn,.int .i64 x.out,.string x.region,.int .u8 x.kind,.string x.speaker,.slice x.at_ x.rows.length x.cap]
def bu (w:fm)(a:Option Addr)(xs:List Row):Prop:=af 1 Row.enc Row.lies w a xs
theorem bu.later {w w':fm} {a:Option Addr} {xs:List Row} (h:bu w a xs)(hb:fB w.heap.size w w'):bu w' a xs:=af.keeps Row.keeps w w' a xs hb h
def Ev.lies (w:fm)(x:Ev):Prop:=bu w x.at_ x.rows
theorem Ev.keeps:Keeps Ev.lies:=fun w w' r hb h=>bu.later h hb
def Ev.fits (x:Ev):Prop:=i64 x.id∧i64 x.inn∧i64 x.out∧x.region.size≤4000000∧0≤x.kind∧x.kind≤255∧x.speaker.size≤4000000∧(∀ r∈x.rows,r.fits)∧x.rows.length≤4000000
def bh (rows:List Row):List Int:=rows.map fun r=>rowLen r.runs
def dp (rows:List Row):Nat→List Int
 | 0=>[]
 | k+1=>dp rows k++[rowLen ((rows[k]?.map Row.runs).getD [])]
theorem zaR (rows:List Row):∀ k,(dp rows k).length=k
 | 0=>rfl
 | k+1=>by simp [dp,zaR rows k]
theorem zcD (rows:List Row):∀ k,k≤rows.length→dp rows k=(rows.take k).map fun r=>rowLen r.runs
 | 0,_=>by simp [dp]
 | k+1,h=>by
   rw [dp,zcD rows k (by omega),List.take_succ_eq_append_getElem (by omega),List.map_append]
   simp [fL (show k<rows.length by omega)]
theorem zhA (rows:List Row):dp rows rows.length=bh rows:=by
 rw [zcD rows _ (fD _),List.take_length];rfl
theorem ziB (rows:List Row)(k:Nat)(r:Row)(h:rows[k]? =some r):dp rows (k+1)=dp rows k++[rowLen r.runs]:=by
 rw [dp,h];rfl
theorem Tryz.info3:(Tryz.prog.info? 3).map (fun i=>(i.zero,i.size,i.bytes))=some (some (.int .i64 0),1,8):=by kernel_rfl
theorem zij {w w':fm} {B base e size n:Nat} {v:fp} {xs:List fp} (h:w.ownsRow base e size v n xs)(hb:fB B w w')(hB:w.heap.size≤B):w'.ownsRow base e size v n xs:=by
 refine⟨h.1,?_⟩
 rcases h.2 with hn|⟨g,cap,cur,e1,hbase,hgg,rest⟩
 · exact .inl hn
 · refine .inr ⟨g,cap,cur,e1,hbase,?_,rest⟩
   rw [hb.block g (Nat.lt_of_lt_of_le (fN.1 hgg).1 hB)]
   exact hgg
theorem Ints.of_owns {w:fm} {base e:Nat} {v:fp} {zs:List Int} (h:w.ownsRow base e 1 v zs.length (zs.map (fO .i64))):∃ a cap,v=.slice a zs.length cap∧Ints w a zs:=by
 have h':=h
 rcases h.2 with⟨rfl,h0⟩|⟨g,cap,cur,rfl,hb,hg,_⟩
 · exact⟨none,0,by rw [h0],.inl (by cases zs<;>simp_all)⟩
 · refine⟨_,cap,rfl,.inr ⟨g,0,rfl,(fN.1 hg).1,fun i z hz=>⟨fun j v hv=>?_,trivial⟩⟩⟩
   have hi:i<zs.length:=(List.getElem?_eq_some_iff.1 hz).1
   match j,hv with
   | 0,hv =>
     simp at hv
     subst hv
     rw [show 0+i*1+0=i by omega,h'.cellAt i (by omega)]
     simp [hz]
def zjc (rows:List Row)(w:fm)(k:Nat)(v:fp)(wr:fm):Prop :=
 wr.ownsRow w.heap.size 3 1 v (dp rows k).length ((dp rows k).map (fO .i64))∧fB w.heap.size w wr
def zgX (rows:List Row)(w:fm)(e:Ending)(w':fm):Prop:=∃ a c,e=.returned (.slice a rows.length c)∧Ints w' a (bh rows)∧fB w.heap.size w w'
theorem zjB {xs:List Row} {w wr:fm} {v:fp} (hown:wr.ownsRow w.heap.size 3 1 v (dp xs xs.length).length ((dp xs xs.length).map (fO .i64)))(hb:fB w.heap.size w wr):zgX xs w (.returned v) wr:=by
 rw [zhA] at hown
 obtain⟨a',c',rfl,hI⟩:=Ints.of_owns hown
 exact⟨a',c',by simp [bh],hI,hb⟩
theorem zdS (x:Ev)(w:fm)(hE:Env w)(hr:x.lies w)(hf:x.fits) :
 ft Tryz.prog 158 #[.agg x.enc.toArray] w (zgX x.rows w):=by
 obtain⟨id,inn,out,region,kind,speaker,a,cap,xs⟩:=x
 obtain⟨_,_,_,_,_,_,_,hfx,hl⟩:=hf
 simp only [Ev.lies] at hr hfx hl
 simp only [Ev.enc]
 obtain⟨j0,hj,hy0,hy1,hy2⟩:=info_parts Tryz.info3
 have JI:=h_ hj;have J0:=h_ hy0;have J1:=h_ hy1;have J2:=h_ hy2
 clear hj hy0 hy1 hy2
 go_enter Tryz.func158,Tryz.ntmps158
 go_wp2_with fail
 go_loopw [3,9] (fun v i wr=>∃ k:Nat,k≤xs.length∧i=.int .i64 k∧zjc xs w k v wr) (fun _ i _=>xs.length-(intOf i).toNat)
 case atStart=>exact⟨0,by omega,rfl,fm.ownsRow_nil _ _ _ _,(fC _ _).alloc (fD _) _⟩
 case round =>
  obtain⟨k,hk,rfl,hown,hb⟩:=hrel
  by_cases hlt:k<xs.length
  · obtain⟨b,off,r,rfl,hbl,hx,hc,hok⟩:=(hr.later hb).at_ hlt
    have hfr:=hfx r (fI hx)
    have HL:=h_ (fun w1 h1 h2=>zbE r w1 h1 h2 hfr)
    have hat:=ziB xs k r hx
    obtain⟨ra,rc,rr⟩:=r
    simp only [Row.enc,Row.lies] at HL hok hat
    have d0:=hc 0 _ rfl
    simp only [fE,fF] at d0
    have hbs:=hb.size
    have HE:=h_ (fun o=>hE.below (hb.alloc hb.size o) (fD _))
    have HOK:=h_ (fun o=>hok.later ((fC wr.heap.size wr).alloc (fD _) o))
    have HO:=h_ (fun(o:Obj) (w1:fm) (h1:fB (wr.heap.size+1) (wr.alloc o) w1)=>zij (hown.alloc o) h1 (by simp))
    have HB:=h_ (fun(o:Obj) (w1:fm) (h1:fB (wr.heap.size+1) (wr.alloc o) w1)=>cu hb o h1)
    have HAT:=h_ hat
    have hlk:(dp xs k).length≤4000000:=by rw [zaR];omega
    generalize rowLen rr=L at *
    clear hc hx hr hown hfx hfr hat hok
    go_wp2_with (first
     | (go_at_call 215;refine(HL.out _ (HE.out _) (HOK.out _)).mono ?_;rintro e w1 ⟨rfl,hb1⟩;simp only [fM] at hb1;have ho1:=h_ (HO.out _ _ hb1);have hbw:=HB.out _ _ hb1;have hbz:=hbw.size)
     | (at_builtin;refine aP _ _ rfl (.tmp 13) (.tmp 16) 229 rfl w.heap.size 3 j0 _ 1 8 Tryz.underlying229 JI.out J0.out J1.out J2.out rfl (by decide) _ _ _ rfl ho1.out _ rfl rfl rfl ?h1 ?h63 ?hb ?hbase ?_))
    case h1=>first|rfl|(intro u hu;simp at hu;subst hu;rfl)
    case h63=>unfold maxLen;omega
    case hb=>omega
    case hbase=>exact hbz
    intro v' w2 hown' hgrow
    have R:zjc xs w (k+1) v' w2:=by
     refine⟨?_,(hbw.alloc hbw.size _).grown hgrow (by simp;omega) (fun j hj=>(ho1.out.lt j hj).1)⟩
     rw [HAT.out]
     simpa using hown'
    clear hown' hgrow ho1
    go_wp2_with fail
    go_roundw
    case rel=>exact⟨k+1,by omega,by go_num,R⟩
    case measure=>simp [intOf];omega
  · obtain rfl:k=xs.length:=by omega
    have HEND:=h_ (zjB hown hb)
    clear hown
    go_wp2_with fail
    go_ret
    exact HEND.out
theorem zdT:∀ (l:List Run)(acc:Int),0≤acc→-1≤ee l acc∧ee l acc≤acc+bQ l
 | [],acc,h=>by simp only [ee,bQ];omega
 | x::l,acc,h=>by
   have h1:=ziD x.text
   simp only [ee,bQ]
   split
   · omega
   · have:=zdT l (acc+lenB x.text) (by omega)
     omega
theorem zie (l:List Run):-1≤rowLen l∧rowLen l≤bQ l:=by
 have:=zdT l 0 (by omega)
 unfold rowLen
 omega
def zcG:List Int→Int→Int
 | [],acc=>acc
 | n::l,acc=>if n<0 then -1 else zcG l (acc+n)
def eY (rows:List Row):Int:=zcG (bh rows) (max ((rows.length:Int)-1) 0)
theorem zcF (rows:List Row)(hf:∀ r∈rows,r.fits):∀ z∈bh rows,z≤4000000:=by
 intro z hz
 simp only [bh,List.mem_map] at hz
 obtain⟨r,hr,rfl⟩:=hz
 have h1:=zie r.runs
 have h2:=(hf r hr).2.2
 omega
theorem zga (x:Ev)(w:fm)(hE:Env w)(hr:x.lies w)(hf:x.fits) :
 ft Tryz.prog 218 #[.agg x.enc.toArray] w fun e w'=>e=.returned (.int .i64 (eY x.rows))∧fB w.heap.size w w':=by
 have hLn:=fun w1 h1 h2=>zdS x w1 h1 h2 hf
 obtain⟨id,inn,out,region,kind,speaker,a,cap,xs⟩:=x
 obtain⟨_,_,_,_,_,_,_,hfx,hl⟩:=hf
 have hbd:=zcF xs hfx
 simp only [Ev.lies] at hr hfx hl hLn
 simp only [Ev.enc] at hLn ⊢
 have hlen:(bh xs).length=xs.length:=by simp [bh]
 generalize hG:eY xs=G
 unfold eY at hG
 generalize hz:bh xs=zs at *
 have HZ:=h_ hz
 have HG:=h_ hG
 have HLn:=h_ (hLn (w.alloc (.cells #[.int .i64 id,.int .i64 inn,.int .i64 out,.string region,.int .u8 kind,.string speaker,.slice a xs.length cap] 50)) (hE.below ((fC _ _).alloc (fD _) _) (fD _)) (hr.later ((fC _ _).alloc (fD _) _)))
 have HLEN:=h_ hlen
 have HBD:=h_ hbd
 clear hG hLn hlen hr hE hfx hz hbd
 obtain⟨m,hm,hm2,hmle⟩:∃ m:Nat,max ((xs.length:Int)-1) 0=m∧((xs.length:Int)-1<0∧m=0∨(0:Int)≤(xs.length:Int)-1∧(m:Int)=(xs.length:Int)-1)∧m≤4000000:=by
  by_cases h:xs.length=0
  · exact⟨0,by omega,.inl ⟨by omega,rfl⟩,by omega⟩
  · exact⟨xs.length-1,by omega,.inr ⟨by omega,by omega⟩,by omega⟩
 rw [hm] at HG
 have HM:=h_ hm2
 clear hm hm2
 rcases HM.out with⟨h0,hm0⟩|⟨h0,hm0⟩
 all_goals
  have HM0:=h_ hm0
  clear hm0
  go_enter Tryz.func218,Tryz.ntmps218
  go_wp2_with fail
  refine HLn.out.mono ?_
  rintro e w1 ⟨a',c',rfl,hI,hb1⟩
  rw [fM] at hb1
  replace hb1:=h_ (aH hb1)
  rw [HZ.out] at hI
  clear HLn
  go_wp2_with fail
  go_loop [3,14] (fun s i=>∃ (k acc:Nat),k≤zs.length∧i=.int .i64 k∧s=.int .i64 acc∧zcG (zs.drop k) acc=G∧acc≤4000000+4000000*k) (fun _ i=>zs.length-(intOf i).toNat)
  case atStart=>exact⟨0,m,by omega,rfl,by have:=HM0.out;go_num,by rw [fK];exact HG.out,by omega⟩
  case round =>
   obtain⟨k,acc,hk,rfl,rfl,hp,hac⟩:=hrel
   have hlx:zs.length≤xs.length:=by have:=HLEN.out;omega
   have hlx2:xs.length≤zs.length:=by have:=HLEN.out;omega
   by_cases hlt:k<zs.length
   · obtain⟨b,off,z,rfl,hbl,hzz,hc,_⟩:=hI.at_ hlt
     have d0:=hc 0 _ rfl
     simp only [fE,fF] at d0
     have hzb:=HBD.out z (fI hzz)
     rw [aZ zs k z hzz] at hp
     simp only [zcG] at hp
     have HP:=h_ hp
     clear hp hc hzz hI HG
     by_cases hneg:z<0
     · go_wp2_with fail
       all_goals
        go_ret
        exact⟨ag (by rw [←HP.out,if_pos hneg]),hb1.out⟩
     · have hnn:0≤z:=by omega
       obtain⟨n,rfl⟩:=Int.eq_ofNat_of_zero_le hnn
       rw [if_neg (by omega)] at HP
       have hac2:acc≤4000000+4000000*4000000:=by omega
       clear hneg
       go_wp2_with fail
       all_goals
        go_round
        case rel=>exact⟨k+1,acc+n,by omega,by go_num,by go_num,by have:=HP.out;simpa using this,by omega⟩
        case measure=>simp [intOf];omega
   · obtain rfl:k=zs.length:=by omega
     rw [fJ] at hp
     have HP:=h_ hp
     clear hp HG
     go_wp2_with fail
     go_ret
     exact⟨ag (by rw [←HP.out];rfl),hb1.out⟩
def orL:List Int→Int
 | []=>0
 | z::l=>if (z != 0)=true then z else orL l
theorem zgA (a:Option Addr)(cap:Nat)(zs:List Int)(w:fm)(hI:Ints w a zs)(hl:zs.length≤4000000) :
 ft Tryz.prog 159 #[.slice a zs.length cap] w fun e w'=>e=.returned (.int .i64 (orL zs))∧w=w':=by
 generalize hG:orL zs=G
 have H0:=h_ (show orL (zs.drop 0)=G by rw [fK];exact hG)
 clear hG
 go_enter Tryz.func159,Tryz.ntmps159
 go_wp2_with fail
 go_loop [8] (fun i=>∃ k:Nat,k≤zs.length∧i=.int .i64 k∧orL (zs.drop k)=G) (fun i=>zs.length-(intOf i).toNat)
 case atStart=>exact⟨0,by omega,rfl,H0.out⟩
 case round =>
  obtain⟨k,hk,rfl,hp⟩:=hrel
  by_cases hlt:k<zs.length
  · obtain⟨b,off,z,rfl,hbl,hzz,hc,_⟩:=hI.at_ hlt
    have d0:=hc 0 _ rfl
    simp only [fE,fF] at d0
    rw [aZ zs k z hzz] at hp
    simp only [orL] at hp
    have HP:=h_ hp
    clear hp hc hzz hI H0
    cases hz:z != 0
    · rw [hz,if_neg (by decide)] at HP
      go_wp2_with fail
      go_round
      case rel=>exact⟨k+1,by omega,by go_num,HP.out⟩
      case measure=>simp [intOf];omega
    · rw [hz,if_pos rfl] at HP
      go_wp2_with fail
      go_ret
      exact⟨ag HP.out,rfl⟩
  · obtain rfl:k=zs.length:=by omega
    rw [fJ] at hp
    have HP:=h_ hp
    clear hp H0
    go_wp2_with fail
    go_ret
    exact⟨ag (by rw [←HP.out];rfl),rfl⟩
def zex (x y:Ev):Bool:=decide (orL [fG x.inn y.inn,fG x.id y.id]<0)
theorem zhy (x y:Ev)(w:fm):ft Tryz.prog 88 #[.agg x.enc.toArray,.agg y.enc.toArray] w fun e w'=>e=.returned (.bool (zex x y))∧fB w.heap.size w w':=by
 unfold zex
 obtain⟨id,inn,out,region,kind,speaker,a,cap,xs⟩:=x
 obtain⟨id',inn',out',region',kind',speaker',a',cap',xs'⟩:=y
 simp only [Ev.enc]
 have HC:=h_ (fun p q w=>Tryz.cmp_Compare_int p q w)
 have hb0:∀ o o',fB w.heap.size w ((w.alloc o).alloc o'):=fun o o'=>((fC _ _).alloc (fD _) _).alloc (by simp) _
 have hc1:∀ (cs cs':Array fp) (j:Nat),((w.alloc (.cells cs 50)).alloc (.cells cs' 50)).cell? ⟨w.heap.size,j,none⟩=cs[j]?:=fun cs cs' j=>by
  rw [fm.cell?_alloc_lt _ _ _ (by simp),fu _ _ j cs 50 (0,0) (fw w _)]
 have hc2:∀ (cs cs':Array fp) (j:Nat),((w.alloc (.cells cs 50)).alloc (.cells cs' 50)).cell? ⟨w.heap.size+1,j,none⟩=cs'[j]?:=fun cs cs' j=>by
  rw [fu _ _ j cs' 50 (0,0) (zcd w _ _)]
 have HB:=h_ (hb0 (.cells #[.int .i64 id,.int .i64 inn,.int .i64 out,.string region,.int .u8 kind,.string speaker,.slice a xs.length cap] 50) (.cells #[.int .i64 id',.int .i64 inn',.int .i64 out',.string region',.int .u8 kind',.string speaker',.slice a' xs'.length cap'] 50))
 have e1:=hc1 #[.int .i64 id,.int .i64 inn,.int .i64 out,.string region,.int .u8 kind,.string speaker,.slice a xs.length cap] #[.int .i64 id',.int .i64 inn',.int .i64 out',.string region',.int .u8 kind',.string speaker',.slice a' xs'.length cap'] 0
 have e2:=hc1 #[.int .i64 id,.int .i64 inn,.int .i64 out,.string region,.int .u8 kind,.string speaker,.slice a xs.length cap] #[.int .i64 id',.int .i64 inn',.int .i64 out',.string region',.int .u8 kind',.string speaker',.slice a' xs'.length cap'] 1
 have e3:=hc2 #[.int .i64 id,.int .i64 inn,.int .i64 out,.string region,.int .u8 kind,.string speaker,.slice a xs.length cap] #[.int .i64 id',.int .i64 inn',.int .i64 out',.string region',.int .u8 kind',.string speaker',.slice a' xs'.length cap'] 0
 have e4:=hc2 #[.int .i64 id,.int .i64 inn,.int .i64 out,.string region,.int .u8 kind,.string speaker,.slice a xs.length cap] #[.int .i64 id',.int .i64 inn',.int .i64 out',.string region',.int .u8 kind',.string speaker',.slice a' xs'.length cap'] 1
 replace e1:=e1.trans (show _=some (fO .i64 id) from rfl)
 replace e2:=e2.trans (show _=some (fO .i64 inn) from rfl)
 replace e3:=e3.trans (show _=some (fO .i64 id') from rfl)
 replace e4:=e4.trans (show _=some (fO .i64 inn') from rfl)
 generalize hW:(w.alloc (.cells #[.int .i64 id,.int .i64 inn,.int .i64 out,.string region,.int .u8 kind,.string speaker,.slice a xs.length cap] 50)).alloc (.cells #[.int .i64 id',.int .i64 inn',.int .i64 out',.string region',.int .u8 kind',.string speaker',.slice a' xs'.length cap'] 50)=W at *
 have HW:=h_ hW
 clear hW hb0 hc1 hc2
 go_enter Tryz.func88,Tryz.ntmps88
 go_wp2_with fail
 rw [HW.out]
 refine wp_region_still_tail 12 (by kernel_rfl) (by kernel_rfl) ?_
 simp only [List.take_succ_cons,List.take_zero,List.drop_succ_cons,fK]
 repeat still_step
 still_call (HC.out _ _ _)
 repeat still_step
 still_call (HC.out _ _ _)
 refine wpStill_nil ?_
 have HI:Hid (∀ w2:fm,Ints (w2.alloc (.cells #[.int .i64 (fG inn inn'),.int .i64 (fG id id')] 3)) (some ⟨w2.heap.size,0,none⟩) [fG inn inn',fG id id']):=h_ (fun w2=>by
  refine .inr ⟨w2.heap.size,0,rfl,by simp,fun i z hz=>⟨fun j v hv=>?_,trivial⟩⟩
  match j,hv with
  | 0,hv =>
    simp at hv
    subst hv
    rw [show 0+i*1+0=i by omega,fu _ _ i _ 3 (0,0) (fw w2 _)]
    match i,hz with
    | 0,hz=>simp at hz;subst hz;rfl
    | 1,hz=>simp at hz;subst hz;rfl)
 have HI2:Hid (Ints ((W.alloc (.cells #[.int .i64 (fG inn inn'),.int .i64 (fG id id')] 3)).drew) (some ⟨W.heap.size,0,none⟩) [fG inn inn',fG id id']):=h_ (HI.out W)
 go_wp2_with fail
 refine(zgA _ _ [fG inn inn',fG id id'] _ HI2.out (by simp)).mono ?_
 rintro e w' ⟨rfl,rfl⟩
 go_wp2_with fail
 go_ret
 exact⟨rfl,by first|exact(HB.out.drew).alloc HB.out.size _|exact(HB.out.alloc HB.out.size _).drew|exact HB.out.alloc HB.out.size _⟩
def cA:List Row→Int
 | []=>0
 | r::l=>if (cH r.runs != 0)=true then cH r.runs else cA l
def zfO (R:Reg)(rows:List Row):Int:=if (cA rows != 0)=true then cA rows else cD R (bh rows)
def eD (x:Ev)(found:Bool):Int :=
 if x.id<1∨1099511627776<x.id∨dy x.inn x.out=false then 2 else if found=false then 6 else if x.kind<1∨4<x.kind then 3 else if ¬ x.speaker.toList=[]∧cU x.speaker=false then 5 else if x.rows.length=0∨4<x.rows.length then 9 else 0
def zbv (x:Ev)(rG:List Reg):Int:=if (eD x (zbs rG x.region).2 != 0)=true then eD x (zbs rG x.region).2 else zfO (zbs rG x.region).1 x.rows
def zcs (R:Reg)(rows:List Row)(k:Nat):Int:=if (cA (rows.drop k) != 0)=true then cA (rows.drop k) else cD R (bh rows)
theorem ze3 (R:Reg)(rows:List Row)(k:Nat)(r:Row)(h:rows[k]? =some r):zcs R rows k=if (cH r.runs != 0)=true then cH r.runs else zcs R rows (k+1):=by
 unfold zcs
 rw [aZ rows k r h,cA]
 by_cases he:(cH r.runs != 0)=true
 · rw [if_pos he,if_pos he,if_pos he]
 · rw [if_neg he,if_neg he]
theorem zdN (R:Reg)(rows:List Row):zcs R rows rows.length=cD R (bh rows):=by
 unfold zcs
 rw [fJ];rfl
theorem zf2 (k:Int)(h:k<1∨4<k):kindName k=⟨#[]⟩:=by unfold kindName;repeat rw [if_neg (by omega)]
theorem zfn (k:Int)(h0:1≤k)(h:k≤4):¬ (kindName k).toList=[]:=by
 rcases(show k=1∨k=2∨k=3∨k=4 by omega) with rfl|rfl|rfl|rfl<;>decide +kernel
theorem zhE (rG:List Reg)(nm:ByteArray)(hf:∀ r∈rG,r.fits):(zbs rG nm).1.fits:=by
 have hd:zan.fits:=by simp only [zan,Reg.fits,i64];decide
 have hz:bB.fits:=by simp only [bB,Reg.fits,i64];decide
 have key:∀ l:List Reg,(∀ r∈l,r.fits)→(zbt nm l).1.fits:=by
  intro l
  induction l with
  | nil=>intro _;exact hz
  | cons r l ih =>
    intro h
    rw [zbt]
    split
    · exact h r (by simp)
    · exact ih (fun q hq=>h q (by simp [hq]))
 unfold zbs
 split
 · exact hd
 · exact key rG hf
theorem zjG (x:Ev)(found:Bool):(eD x found=2∧(x.id<1∨(1≤x.id∧1099511627776<x.id)))∨(eD x found=2∧1≤x.id∧x.id≤1099511627776∧dy x.inn x.out=false) ∨
 (1≤x.id∧x.id≤1099511627776∧dy x.inn x.out=true∧((eD x found=6∧found=false)∨(found=true ∧
  ((eD x found=3∧(x.kind<1∨4<x.kind))∨(1≤x.kind∧x.kind≤4 ∧
   ((eD x found=5∧¬ x.speaker.toList=[]∧cU x.speaker=false)∨((x.speaker.toList=[]∨(¬ x.speaker.toList=[]∧cU x.speaker=true)) ∧
    ((eD x found=9∧(x.rows.length=0∨4<x.rows.length))∨(eD x found=0∧1≤x.rows.length∧x.rows.length≤4))))))))):=by
 unfold eD
 generalize x.rows.length=n
 cases hs:dy x.inn x.out<;>cases found<;>cases hn:cU x.speaker<;>by_cases hp:x.speaker.toList=[]<;>simp [hp]<;>omega
theorem zaZ (x:Ev)(a:Option Addr)(cap:Nat)(rG:List Reg)(w:fm)(hE:Env w)(hr:x.lies w)(hf:x.fits)(hR:Regs w a rG)(hfr:∀ r∈rG,r.fits)(hlr:rG.length≤4000000) :
 ft Tryz.prog 87 #[.agg x.enc.toArray,.slice a rG.length cap] w fun e w'=>e=.returned (.int .i64 (zbv x rG))∧fB w.heap.size w w':=by
 have hFind:=fun w1 h1=>zhD a cap rG x.region w1 h1 hlr
 have hRf:=zhE rG x.region hfr
 have hLn:=fun w1 h1 h2=>zdS x w1 h1 h2 hf
 have hfl:=zcF x.rows hf.2.2.2.2.2.2.2.1
 generalize hG:zbv x rG=G
 unfold zbv at hG
 generalize hF:zbs rG x.region=F at *
 obtain⟨R,found⟩:=F
 simp only at hG hRf
 have hcs:=zjG x found
 obtain⟨_,_,_,hs1,hk0,hk1,hs2,hfx,hl⟩:=hf
 have hlens:(bh x.rows).length=x.rows.length:=by simp [bh]
 obtain⟨id,inn,out,region,kind,speaker,ra,rc,rows⟩:=x
 simp only [Ev.lies] at hr hfx hl hLn hs1 hs2 hk0 hk1 hlens hfl
 simp only [Ev.enc] at hLn hFind ⊢
 generalize eD ⟨id,inn,out,region,kind,speaker,ra,rc,rows⟩ found=EH at *
 simp only at hG hcs
 have HG:=h_ hG
 generalize hcs0:#[fO .i64 id,.int .i64 inn,.int .i64 out,.string region,.int .u8 kind,.string speaker,.slice ra rows.length rc]=cs at *
 have f0:=ab w cs 50 0 (.int .i64 id) (by rw [←hcs0];rfl)
 have f1:=ab w cs 50 1 (.int .i64 inn) (by rw [←hcs0];rfl)
 have f2:=ab w cs 50 2 (.int .i64 out) (by rw [←hcs0];rfl)
 have f3:=ab w cs 50 3 (.string region) (by rw [←hcs0];rfl)
 have f4:=ab w cs 50 4 (.int .u8 kind) (by rw [←hcs0];rfl)
 have f5:=ab w cs 50 5 (.string speaker) (by rw [←hcs0];rfl)
 have f6:=ab w cs 50 6 (.slice ra rows.length rc) (by rw [←hcs0];rfl)
 have HB:=h_ (fun(w1:fm) (h:fB (w.heap.size+1) (w.alloc (.cells cs 50)) w1)=>aH h)
 have HE:=h_ (fun(w1:fm) (h:fB (w.heap.size+1) (w.alloc (.cells cs 50)) w1)=>hE.below (aH h) (fD _))
 have HR:=h_ (fun(w1:fm) (h:fB (w.heap.size+1) (w.alloc (.cells cs 50)) w1)=>hr.later (aH h))
 have HRg:=h_ (fun(w1:fm) (h:fB (w.heap.size+1) (w.alloc (.cells cs 50)) w1)=>hR.later (aH h))
 have hb0:fB (w.heap.size+1) (w.alloc (.cells cs 50)) (w.alloc (.cells cs 50)):=fC _ _
 have hsz:(w.alloc (.cells cs 50)).heap.size=w.heap.size+1:=fM _ _
 have HFind:=h_ hFind
 have HLn:=h_ hLn
 generalize hW0:w.alloc (.cells cs 50)=W0 at *
 have HW0:=h_ hW0
 have HSZ:=h_ hsz
 have HLENS:=h_ hlens
 have HRF:=h_ hRf
 have HFX:=h_ hfx
 have HCS:=h_ hcs
 clear hW0 hsz hE hr hR hFind hLn hG hcs hfr hF hlens hRf hfx hfl
 go_enter Tryz.func87,Tryz.ntmps87
 subst hcs0
 go_wp2_with fail
 rw [HW0.out]
 refine(HFind.out _ (HRg.out _ hb0)).mono ?_
 rintro e w1 ⟨rfl,hb1⟩
 rw [HSZ.out] at hb1
 clear HW0 HFind
 obtain⟨Rn,Rt,Rh,Rl,Rw,Ra,Rb⟩:=R
 simp only [Reg.enc]
 have hlt1:w.heap.size<w1.heap.size:=by have:=hb1.size;rw [HSZ.out] at this;omega
 have hb1a:Hid (∀ o,fB (w.heap.size+1) W0 (w1.alloc o)):=h_ (fun o=>hb1.alloc (by omega) o)
 have HGo:=h_ (fun(n:Int) (h:EH=n) (h0:(n != 0)=true)=>(show n=G by rw [←HG.out,h,if_pos h0]))
 have HGz:=h_ (fun(h:EH=0)=>(show zfO ⟨Rn,Rt,Rh,Rl,Rw,Ra,Rb⟩ rows=G by rw [←HG.out,h,if_neg (by decide)]))
 clear HG
 generalize hrs:#[fp.string Rn,.int .i64 Rt,.int .i64 Rh,.int .i64 Rl,.int .i64 Rw,.int .u8 Ra,.bool Rb]=rs at *
 have g0:=ab w1 rs 44 0 (.string Rn) (by rw [←hrs];rfl)
 have g1:=ab w1 rs 44 1 (.int .i64 Rt) (by rw [←hrs];rfl)
 have g2:=ab w1 rs 44 2 (.int .i64 Rh) (by rw [←hrs];rfl)
 have g3:=ab w1 rs 44 3 (.int .i64 Rl) (by rw [←hrs];rfl)
 have g4:=ab w1 rs 44 4 (.int .i64 Rw) (by rw [←hrs];rfl)
 have g5:=ab w1 rs 44 5 (.int .u8 Ra) (by rw [←hrs];rfl)
 have g6:=ab w1 rs 44 6 (.bool Rb) (by rw [←hrs];rfl)
 have hsz1:(w1.alloc (.cells rs 44)).heap.size=w1.heap.size+1:=fM _ _
 have HT1:=h_ (fun(w2:fm) (h:fB (w1.heap.size+1) (w1.alloc (.cells rs 44)) w2)=>(hb1a.out (.cells rs 44)).trans (h.mono (by omega)))
 have HT2:=h_ (fun(w2 w3:fm) (h:fB (w1.heap.size+1) (w1.alloc (.cells rs 44)) w2) (h3:fB w2.heap.size w2 w3)=>h.trans (h3.mono (by have:=h.size;omega)))
 have hc1:fB (w1.heap.size+1) (w1.alloc (.cells rs 44)) (w1.alloc (.cells rs 44)):=fC _ _
 have hd1:fB (w.heap.size+1) W0 (w1.alloc (.cells rs 44)):=hb1a.out _
 have HW1s:=h_ hsz1
 have HT1b:=HT1
 clear hsz1
 generalize hW1:w1.alloc (.cells rs 44)=W1 at *
 have HW1:=h_ hW1
 clear hW1
 subst hrs
 have hsb:=fun w2=>zfL inn out w2
 have hkb:=fun w2=>zdi kind w2 hk0 hk1
 have hnb:=fun w2=>fe speaker w2 hs2
 generalize dy inn out=SP at *
 generalize cU speaker=NB at *
 have HS:=h_ hsb
 have HK:=h_ hkb
 have HN:=h_ hnb
 clear hsb hkb hnb
 rcases HCS.out with⟨he,hi|⟨hi0,hi⟩⟩|⟨he,hi0,hi1,hsp⟩|⟨hi0,hi1,hsp,⟨he,rfl⟩|⟨rfl,⟨he,hk⟩|⟨hkk0,hkk1,⟨he,hsq,hnm⟩|⟨hsq,⟨he,hn⟩|⟨he,hn0,hn1⟩⟩⟩⟩⟩
 · have HHE:=h_ he
   clear he HCS
   go_wp2_with fail
   rw [HW1.out]
   go_ret
   exact⟨ag (HGo.out _ HHE.out rfl),HB.out _ hd1⟩
 · have HHE:=h_ he
   clear he HCS
   go_wp2_with fail
   rw [HW1.out]
   go_ret
   exact⟨ag (HGo.out _ HHE.out rfl),HB.out _ hd1⟩
 · have HHE:=h_ he
   subst hsp
   clear he HCS
   go_wp2_with fail
   rw [HW1.out]
   refine(HS.out _).mono ?_
   rintro e w2 ⟨rfl,hb2⟩
   have hc2:=HT2.out _ _ hc1 hb2
   have hd2:=HT1.out _ hc2
   go_wp2_with fail
   go_ret
   exact⟨ag (HGo.out _ HHE.out rfl),HB.out _ hd2⟩
 all_goals
  have HHE:=h_ he
  subst hsp
  clear he HCS
  go_wp2_with fail
  rw [HW1.out]
  refine(HS.out _).mono ?_
  rintro e w2 ⟨rfl,hb2⟩
  have hc2:=HT2.out _ _ hc1 hb2
  have hd2:=HT1.out _ hc2
  clear hb2
 · go_wp2_with fail
   go_ret
   exact⟨ag (HGo.out _ HHE.out rfl),HB.out _ hd2⟩
 · rw [zf2 kind hk] at HK
   clear hk
   go_wp2_with fail
   refine(HK.out _).mono ?_
   rintro e w3 ⟨rfl,hb3⟩
   have hc3:=HT2.out _ _ hc2 hb3
   have hd3:=HT1.out _ hc3
   go_wp2_with fail
   go_ret
   exact⟨ag (HGo.out _ HHE.out rfl),HB.out _ hd3⟩
 all_goals
  have hkn:=zfn kind hkk0 hkk1
  clear hkk0 hkk1
  generalize kindName kind=KN at *
  have hkn2:KN.toList.isEmpty=false:=by simpa using hkn
  go_wp2_with fail
  refine(HK.out _).mono ?_
  rintro e w3 ⟨rfl,hb3⟩
  have hc3:=HT2.out _ _ hc2 hb3
  have hd3:=HT1.out _ hc3
  clear hb3
 · subst hnm
   have hsq2:speaker.toList.isEmpty=false:=by simpa using hsq
   go_wp2_with fail
   refine(HN.out _).mono ?_
   rintro e w4 ⟨rfl,rfl⟩
   go_wp2_with fail
   go_ret
   exact⟨ag (HGo.out _ HHE.out rfl),HB.out _ hd3⟩
 · rcases hn with hn|hn<;>rcases hsq with hsq|⟨hsq,rfl⟩
   · have hsq2:speaker.toList.isEmpty=true:=by simpa using hsq
     go_wp2_with fail
     go_ret
     exact⟨ag (HGo.out _ HHE.out rfl),HB.out _ hd3⟩
   · have hsq2:speaker.toList.isEmpty=false:=by simpa using hsq
     go_wp2_with (go_at_call 150;refine(HN.out _).mono ?_;rintro e w4 ⟨rfl,rfl⟩)
     go_ret
     exact⟨ag (HGo.out _ HHE.out rfl),HB.out _ hd3⟩
   · have hsq2:speaker.toList.isEmpty=true:=by simpa using hsq
     have t0:((rows.length:Int)==0)=false:=by rw [beq_eq_false_iff_ne];omega
     have t1:¬ rows=[]:=by rintro rfl;simp at hn
     go_wp2_with fail
     go_ret
     exact⟨ag (HGo.out _ HHE.out rfl),HB.out _ hd3⟩
   · have hsq2:speaker.toList.isEmpty=false:=by simpa using hsq
     have t0:((rows.length:Int)==0)=false:=by rw [beq_eq_false_iff_ne];omega
     have t1:¬ rows=[]:=by rintro rfl;simp at hn
     go_wp2_with (go_at_call 150;refine(HN.out _).mono ?_;rintro e w4 ⟨rfl,rfl⟩)
     go_ret
     exact⟨ag (HGo.out _ HHE.out rfl),HB.out _ hd3⟩
 · have HGG:=h_ (HGz.out HHE.out)
   clear HGo HGz HHE HS HK hb1a HW1 hlr HRg hc1 hd1 hc2 hd2 hb0 hb1
   have t0:((rows.length:Int)==0)=false:=by rw [beq_eq_false_iff_ne];omega
   have t1:¬ rows=[]:=by rintro rfl;simp at hn0
   rcases hsq with hsq|⟨hsq,rfl⟩
   · have hsq2:speaker.toList.isEmpty=true:=by simpa using hsq
     go_wp2_with fail
     clear hkn hkn2 hsq hsq2 t0 t1 HN
     go_loopw [66] (fun i wr=>∃ k:Nat,k≤rows.length∧i=.int .i64 k∧zcs ⟨Rn,Rt,Rh,Rl,Rw,Ra,Rb⟩ rows k=G∧fB (w1.heap.size+1) W1 wr) (fun i _=>rows.length-(intOf i).toNat)
     case atStart=>exact⟨0,by omega,rfl,by rw [←HGG.out];rfl,hc3⟩
     case round =>
      obtain⟨k,hk,rfl,hp,hb⟩:=hrel
      have hdd:=HT1.out _ hb
      clear hc3 hd3 HGG
      by_cases hlt:k<rows.length
      · obtain⟨b,off,r,rfl,hbl,hx,hc,hok⟩:=(HR.out _ hdd).at_ hlt
        have hfr:=HFX.out r (fI hx)
        have HC:=h_ (fun w1 h1 h2=>zcM r w1 h1 h2 hfr)
        rw [ze3 _ rows k r hx] at hp
        obtain⟨qa,qc,rr⟩:=r
        simp only [Row.enc,Row.lies] at HC hok hp
        have d0:=hc 0 _ rfl
        simp only [fE,fF] at d0
        have hbs:=hb.size
        have HOK:=h_ (fun o=>hok.later ((fC wr.heap.size wr).alloc (fD _) o))
        have HP:=h_ hp
        have HA:=h_ (fun(o:Obj)=>(HT2.out _ _ hb ((fC wr.heap.size wr).alloc (fD _) o)))
        clear hc hx hfr hok hp
        generalize cH rr=E at *
        cases hE:E != 0
        · have hE0:E=0:=by simpa using hE
          subst hE0
          go_wp2_with (go_at_call 156;refine(HC.out _ (HE.out _ (HT1.out _ (HA.out _))) (HOK.out _)).mono ?_;rintro e w5 ⟨rfl,hb5⟩;have hc5:=HT2.out _ _ (HA.out _) hb5;clear hb5)
          go_roundw
          case rel=>exact⟨k+1,by omega,by go_num,by rw [←HP.out];rfl,hc5⟩
          case measure=>simp [intOf];omega
        · rw [hE] at HP
          go_wp2_with (go_at_call 156;refine(HC.out _ (HE.out _ (HT1.out _ (HA.out _))) (HOK.out _)).mono ?_;rintro e w5 ⟨rfl,hb5⟩;have hc5:=HT2.out _ _ (HA.out _) hb5;clear hb5)
          go_ret
          exact⟨ag (by rw [←HP.out];rfl),HB.out _ (HT1.out _ hc5)⟩
      · obtain rfl:k=rows.length:=by omega
        rw [zdN] at hp
        have HPl:=h_ (fun(a:Option Addr) (c:Nat) (w:fm) (hI:Ints w a (bh rows))=>zbG ⟨Rn,Rt,Rh,Rl,Rw,Ra,Rb⟩ a c (bh rows) w HRF.out hI (by rw [HLENS.out];omega))
        simp only [hp,HLENS.out,Reg.enc] at HPl
        clear hp HT1 HFX HRF hi0 hi1 hn0 hn1
        have hdd0:=hdd
        have hbD:fB (w1.heap.size+1) W1 wr.drew:=hb.drew
        have hdD:fB (w.heap.size+1) W0 wr.drew:=hdd.drew
        have hx0:w.heap.size<wr.heap.size:=by have:=hdd0.size;rw [HSZ.out] at this;omega
        have hx1:w1.heap.size<wr.heap.size:=by have:=hb.size;have h9:=HW1s.out;omega
        go_wp2_with fail
        go_region_with (first
         | (go_at_call 158;refine(HLn.out _ (HE.out _ hdD) (HR.out _ hdD)).mono ?_;rintro e w6 ⟨a',c',rfl,hI,hb6⟩;have hc6:=HT2.out _ _ hbD hb6;have hd6:=HT1b.out _ hc6;clear hb6)
         | (go_at_call 157;refine(HPl.out _ _ _ hI).mono ?_;rintro e w7 ⟨v,rfl,hb7⟩;have hc7:=HT2.out _ _ hc6 hb7;have hd7:=HT1b.out _ hc7;clear hb7))
        all_goals
         go_wp2_with fail
         go_ret
         exact⟨ag rfl,HB.out _ hd7⟩
   · have hsq2:speaker.toList.isEmpty=false:=by simpa using hsq
     go_wp2_with (go_at_call 150;refine(HN.out _).mono ?_;rintro e w4 ⟨rfl,rfl⟩)
     clear hkn hkn2 hsq hsq2 t0 t1 HN
     go_loopw [66] (fun i wr=>∃ k:Nat,k≤rows.length∧i=.int .i64 k∧zcs ⟨Rn,Rt,Rh,Rl,Rw,Ra,Rb⟩ rows k=G∧fB (w1.heap.size+1) W1 wr) (fun i _=>rows.length-(intOf i).toNat)
     case atStart=>exact⟨0,by omega,rfl,by rw [←HGG.out];rfl,hc3⟩
     case round =>
      obtain⟨k,hk,rfl,hp,hb⟩:=hrel
      have hdd:=HT1.out _ hb
      clear hc3 hd3 HGG
      by_cases hlt:k<rows.length
      · obtain⟨b,off,r,rfl,hbl,hx,hc,hok⟩:=(HR.out _ hdd).at_ hlt
        have hfr:=HFX.out r (fI hx)
        have HC:=h_ (fun w1 h1 h2=>zcM r w1 h1 h2 hfr)
        rw [ze3 _ rows k r hx] at hp
        obtain⟨qa,qc,rr⟩:=r
        simp only [Row.enc,Row.lies] at HC hok hp
        have d0:=hc 0 _ rfl
        simp only [fE,fF] at d0
        have hbs:=hb.size
        have HOK:=h_ (fun o=>hok.later ((fC wr.heap.size wr).alloc (fD _) o))
        have HP:=h_ hp
        have HA:=h_ (fun(o:Obj)=>(HT2.out _ _ hb ((fC wr.heap.size wr).alloc (fD _) o)))
        clear hc hx hfr hok hp
        generalize cH rr=E at *
        cases hE:E != 0
        · have hE0:E=0:=by simpa using hE
          subst hE0
          go_wp2_with (go_at_call 156;refine(HC.out _ (HE.out _ (HT1.out _ (HA.out _))) (HOK.out _)).mono ?_;rintro e w5 ⟨rfl,hb5⟩;have hc5:=HT2.out _ _ (HA.out _) hb5;clear hb5)
          go_roundw
          case rel=>exact⟨k+1,by omega,by go_num,by rw [←HP.out];rfl,hc5⟩
          case measure=>simp [intOf];omega
        · rw [hE] at HP
          go_wp2_with (go_at_call 156;refine(HC.out _ (HE.out _ (HT1.out _ (HA.out _))) (HOK.out _)).mono ?_;rintro e w5 ⟨rfl,hb5⟩;have hc5:=HT2.out _ _ (HA.out _) hb5;clear hb5)
          go_ret
          exact⟨ag (by rw [←HP.out];rfl),HB.out _ (HT1.out _ hc5)⟩
      · obtain rfl:k=rows.length:=by omega
        rw [zdN] at hp
        have HPl:=h_ (fun(a:Option Addr) (c:Nat) (w:fm) (hI:Ints w a (bh rows))=>zbG ⟨Rn,Rt,Rh,Rl,Rw,Ra,Rb⟩ a c (bh rows) w HRF.out hI (by rw [HLENS.out];omega))
        simp only [hp,HLENS.out,Reg.enc] at HPl
        clear hp HT1 HFX HRF hi0 hi1 hn0 hn1
        have hdd0:=hdd
        have hbD:fB (w1.heap.size+1) W1 wr.drew:=hb.drew
        have hdD:fB (w.heap.size+1) W0 wr.drew:=hdd.drew
        have hx0:w.heap.size<wr.heap.size:=by have:=hdd0.size;rw [HSZ.out] at this;omega
        have hx1:w1.heap.size<wr.heap.size:=by have:=hb.size;have h9:=HW1s.out;omega
        go_wp2_with fail
        go_region_with (first
         | (go_at_call 158;refine(HLn.out _ (HE.out _ hdD) (HR.out _ hdD)).mono ?_;rintro e w6 ⟨a',c',rfl,hI,hb6⟩;have hc6:=HT2.out _ _ hbD hb6;have hd6:=HT1b.out _ hc6;clear hb6)
         | (go_at_call 157;refine(HPl.out _ _ _ hI).mono ?_;rintro e w7 ⟨v,rfl,hb7⟩;have hc7:=HT2.out _ _ hc6 hb7;have hd7:=HT1b.out _ hc7;clear hb7))
        all_goals
         go_wp2_with fail
         go_ret
         exact⟨ag rfl,HB.out _ hd7⟩
end Go.Proofs.YtnlnmbcaongehaaGreatDoor
