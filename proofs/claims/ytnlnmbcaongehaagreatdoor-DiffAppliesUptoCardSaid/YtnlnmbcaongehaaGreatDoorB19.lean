/- The contract of diff.Fields: the names of the fields that differ, over diff.fields. The contract of diff.Text: the report of changes, over diff.Fields. The contract of diff.fields where the section is 3. (printed by gen_fields.py) The report of the example's changes. -/
import Derived.Test.YtnlnmbcaongehaaGreatDoorB18
set_option linter.unusedVariables false
set_option linter.unusedSimpArgs false
set_option maxRecDepth 100000
set_option maxHeartbeats 12800000
open Go.Lib renaming hid→h_
open Go renaming World→e_,heap_alloc_last→fb,Value→fe,wpList_load_mid→ff,cell_of_row→fg,Calls→fh
open Go.RowKit renaming Below→fi
open List renaming length_append→fj,flatMap_append→fk,length→fm,take_add_one→fo,take_length→fp,length_cons→fq,filter_cons→fr
open Go.World renaming size_alloc→ft,ownsRow_nil→fu
open Go.Proofs.Tryz renaming prog→fw,underlying55→fx,underlying54→fy,ntmps19→fz,func19→fA
open Go.RowKit.Below renaming refl→fB,alloc→fC
open Nat renaming le_refl→fD,le_trans→fE
open Go.Value renaming oneCell'→fF,slice→fG,int→fH
open Go.Lib renaming byteCells→fI,join→fJ,IsBuilder→fK,BuilderAt→fL,pow10Tab→fM
open Array renaming getElem?_eq_some_iff→fN
namespace Go.Proofs.YtnlnmbcaongehaaGreatDoor
open Go.RowKit
def zdD (fs:List Fld)(w:e_)(e:Ending)(w':e_):Prop:=∃ a cap,e=.returned (.slice a fs.length cap)∧ab 2 Fld.enc Flat w' a fs∧fi w.heap.size w w'
def strV (s:ByteArray):List fe:=[.string s]
def zdC (ss:List ByteArray)(w:e_)(e:Ending)(w':e_):Prop:=∃ v,e=.returned v∧w'.ownsRow w.heap.size 9 1 v ss.length (ss.flatMap strV)∧fi w.heap.size w w'
theorem zj5 {w:e_} {base e size n:Nat} {v:fe} {xs:List fe} (h:w.ownsRow base e size v n xs):∃ a c,v=.slice a n c:=by
 rcases h.2 with⟨rfl,h0⟩|⟨g',cap,cur,rfl,_⟩
 · exact⟨none,0,by rw [h0]⟩
 · exact⟨_,cap,rfl⟩
def bQ (fs:List Fld)(w:e_)(k:Nat)(v:fe)(wr:e_):Prop:=wr.ownsRow w.heap.size 9 1 v (cL (fs.take k)).length ((cL (fs.take k)).flatMap strV)∧fi w.heap.size w wr
theorem zcR (fs:List Fld)(k:Nat)(f:Fld)(h:fs[k]? =some f):cL (fs.take (k+1))=cL (fs.take k)++(if f.differs=true then [f.name] else []):=by
 unfold cL
 rw [fo,h]
 simp only [Option.toList_some,List.filter_append,List.map_append]
 congr 1
 by_cases hd:f.differs=true
 · simp [fr,hd]
 · simp [fr,hd]
theorem bQ.start (fs:List Fld) {w wr:e_} (hb:fi w.heap.size w wr):bQ fs w 0 (.slice none 0 0) wr:=by
 unfold bQ
 rw [List.take_zero]
 exact⟨fu _ _ _ _,hb⟩
theorem bQ.skip {fs:List Fld} {w wr w1:e_} {k:Nat} {f:Fld} {v:fe} (hf:fs[k]? =some f)(hd:f.differs=false)(h:bQ fs w k v wr)(hb:fi wr.heap.size wr w1):bQ fs w (k+1) v w1:=by
 obtain⟨h1,h2⟩:=h
 unfold bQ
 rw [zcR fs k f hf,if_neg (by rw [hd];decide),List.append_nil]
 exact⟨aM h1 hb,h2.trans (hb.mono h2.size)⟩
theorem bQ.push {fs:List Fld} {w wr w1 w2:e_} {k:Nat} {f:Fld} {v v':fe} (hf:fs[k]? =some f)(hd:f.differs=true)(h:bQ fs w k v wr)(hb:fi wr.heap.size wr w1)
 (hown:w2.ownsRow w.heap.size 9 1 v' ((cL (fs.take k)).length+1) ((cL (fs.take k)).flatMap strV++[.string f.name])) (hg:(w1.alloc (.cells #[.string f.name] 9)).grownBy w2 v.ownBlock):bQ fs w (k+1) v' w2:=by
 obtain⟨h1,h2⟩:=h
 have hb1:=h2.trans (hb.mono h2.size)
 unfold bQ
 rw [zcR fs k f hf,if_pos hd]
 refine⟨?_,(hb1.alloc hb1.size _).grown hg (by have:=hb1.size;simp;omega) (fun j hj=>(h1.lt j hj).1)⟩
 rw [fj,fk]
 simpa [strV] using hown
theorem zhs (c:Chg)(w:e_)(HF:∀ w1,fi w.heap.size w w1→fh fw 62 #[.agg c.enc.toArray] w1 (zdD (fieldsOf c) w1)) :
 fh fw 19 #[.agg c.enc.toArray] w (zdC (fieldNames c) w):=by
 have hlen:(fieldsOf c).length≤5:=zea c
 have hfn:fieldNames c=if (c.added||c.gone)=true then [] else cL (fieldsOf c):=rfl
 have HQ:=h_ (fun(v:fe) (w':e_) (h1:w'.ownsRow w.heap.size 9 1 v (fieldNames c).length ((fieldNames c).flatMap strV)) (h2:fi w.heap.size w w')=>(show zdC (fieldNames c) w (.returned v) w' from⟨v,rfl,h1,h2⟩))
 have HF:=h_ HF
 generalize zdC (fieldNames c) w=Q at *
 generalize fieldNames c=FN at *
 generalize fieldsOf c=fs at *
 obtain⟨i0,hi,hz0,hz1,hz2⟩:=info_parts Tryz.info9
 have JI:=h_ hi;have J0:=h_ hz0;have J1:=h_ hz1;have J2:=h_ hz2
 clear hi hz0 hz1 hz2
 have hsz:(fw.info? 54).map (·.size)=some c.enc.length:=by rw [ef,Chg.len]
 have HSZ:=h_ hsz
 clear hsz
 obtain⟨sec,id,name,ad,gn,oh,nh,rg,nr,oe,ne,oc,nc⟩:=c
 simp only at hfn
 generalize hcl:Chg.enc _=cl at *
 have hc3:cl.toArray[3]? =some (.bool ad):=by rw [←hcl];rfl
 have hc4:cl.toArray[4]? =some (.bool gn):=by rw [←hcl];rfl
 have f3:=aa w cl.toArray 54 3 _ hc3
 have f4:=aa w cl.toArray 54 4 _ hc4
 have hb0:fi (w.heap.size+1) (w.alloc (.cells cl.toArray 54)) (w.alloc (.cells cl.toArray 54)):=fB _ _
 have hs0:(w.alloc (.cells cl.toArray 54)).heap.size=w.heap.size+1:=ft _ _
 have HB:=h_ (fun(w1:e_) (h:fi (w.heap.size+1) (w.alloc (.cells cl.toArray 54)) w1)=>aq h)
 have HR0:=h_ (ay (fb w (.cells cl.toArray 54)))
 clear hcl hc3 hc4
 generalize hW0:w.alloc (.cells cl.toArray 54)=W0 at *
 have HW0:=h_ hW0
 have HS0:=h_ hs0
 have HFN:=h_ hfn
 clear hW0 hs0 hfn
 by_cases hag:(ad||gn)=true
 · have hn:FN=[]:=by rw [HFN.out,if_pos hag]
   have HE:=h_ (HQ.out (.slice none 0 0) W0 (by rw [hn];exact fu _ _ _ _) (HB.out _ hb0))
   clear HF HQ hn
   cases ad
   case' false=>obtain rfl:gn=true:=by simpa using hag
   all_goals
    clear hag
    go_enter fA,fz
    go_upto_region 1 with fail
    rw [HW0.out]
    go_wp2_with fail
    exact HE.out
 · obtain⟨rfl,rfl⟩:ad=false∧gn=false:=by
    cases ad<;>cases gn<;>simp_all
   have hn:FN=cL fs:=HFN.out
   have HN:=h_ hn
   clear hag hn
   go_enter fA,fz
   go_upto_region 1 with fail
   rw [HW0.out]
   go_wp2_with (refine ff rfl 54 (.tmp 1) rfl w.heap.size 0 rfl cl _ HR0.out fy rfl HSZ.out ?_)
   refine(HF.out _ (HB.out _ hb0)).mono ?_
   rintro e w1 ⟨A,cap,rfl,hS,hb1⟩
   have hbw:fi w.heap.size w w1:=(HB.out _ hb0).trans (hb1.mono (by rw [HS0.out];omega))
   have HSt:=h_ (bQ.start fs (fB w1.heap.size w1))
   have HB1:=h_ hbw
   have hw1:=hbw.size
   clear f3 f4 hb0 hb1 hbw HF HR0 HB
   go_wp2_with fail
   go_loopw [15,3] (fun i v wr=>∃ k:Nat,k≤fs.length∧i=.int .i64 k∧bQ fs w1 k v wr) (fun i _ _=>fs.length-(intOf i).toNat)
   case atStart=>exact⟨0,by omega,rfl,HSt.out⟩
   case round =>
    obtain⟨k,hk,rfl,hR⟩:=hrel
    obtain⟨va,vc,rfl⟩:=zj5 hR.1
    have HRR:=h_ hR
    have hbr:=hR.2
    have hws:=hR.2.size
    by_cases hlt:k<fs.length
    · obtain⟨b,off,f,rfl,hbl,hfk,hc,_⟩:=(ab.keeps Flat.keeps _ _ _ _ hbr hS).at_ hlt
      have d0:=hc 0 _ rfl
      have d1:=hc 1 _ rfl
      simp only [Nat.add_zero] at d0
      have hle:(cL (fs.take k)).length≤5:=by
       have h1:=zfn (fs.take k)
       have h2:=List.length_take_le k fs
       omega
      cases hdf:f.differs
      · have HSK:=h_ (fun(w2:e_) (h:fi wr.heap.size wr w2)=>bQ.skip hfk hdf HRR.out h)
        obtain⟨fname,fdif⟩:=f
        simp only at hdf d0 d1
        subst hdf
        have HBA:=h_ (fun(o:Obj)=>(fB wr.heap.size wr).alloc (fD _) o)
        clear hc hfk hR hbr hle hS
        go_wp2_with fail
        go_roundw
        case rel=>exact⟨k+1,by omega,by go_num,HSK.out _ (HBA.out _)⟩
        case measure=>simp [intOf];omega
      · have HPU:=h_ (fun(w2 w3:e_) (v':fe) hb hown hg=>bQ.push (w1:=w2) (w2:=w3) (v':=v') hfk hdf HRR.out hb hown hg)
        have HOW:=h_ (fun(o:Obj)=>hR.1.alloc o)
        have hv1:=hR.1
        generalize (cL (fs.take k)).flatMap strV=fl at *
        generalize hnl:(cL (fs.take k)).length=nl at *
        obtain⟨fname,fdif⟩:=f
        simp only at hdf d0 d1
        subst hdf
        have HBA:=h_ (fun(o:Obj)=>(fB wr.heap.size wr).alloc (fD _) o)
        clear hc hfk hR hbr hS hv1 hnl
        go_wp2_with (at_builtin;refine ak _ _ rfl (.tmp 21) (.tmp 24) 55 rfl w1.heap.size 9 i0 _ 1 16 fx JI.out J0.out J1.out J2.out rfl (by decide) _ _ _ rfl (HOW.out _) _ rfl (ft _ _).symm rfl ?h1 ?h63 ?hb ?hbase ?_)
        case h1=>first|rfl|simp [fF]
        case h63=>unfold maxLen;omega
        case hb=>omega
        case hbase=>first|omega|(simp;omega)
        intro v' w3 hown' hgrow _
        have HR3:=h_ (HPU.out _ w3 v' (HBA.out _) hown' hgrow)
        clear hown' hgrow HPU HOW
        go_wp2_with fail
        go_roundw
        case rel=>exact⟨k+1,by omega,by go_num,HR3.out⟩
        case measure=>simp [intOf];omega
    · obtain rfl:k=fs.length:=by omega
      obtain⟨h1,h2⟩:=hR
      simp only [fp] at h1 ⊢
      have HE1:=h_ (HQ.out _ wr (by rw [HN.out];exact⟨h1.1,h1.2.imp (fun h=>h) (fun⟨g,cap,cur,q1,q2,q3⟩=>⟨g,cap,cur,q1,by omega,q3⟩)⟩) (HB1.out.trans (h2.mono hw1)))
      clear h1 h2 hS HQ
      go_wp2_with fail
      exact HE1.out
theorem zgo {B b:Nat} {bs:List fe} {w w':e_} (h:fK 123 5 B b bs w)(hb:fi w.heap.size w w'):fK 123 5 B b bs w':=by
 have key:∀ p,fL 123 5 B b p bs w→fL 123 5 B b p bs w':=by
  rintro p ⟨hB,v,hbk,hown,hne⟩
  exact⟨hB,v,(hb.block b (fN.1 hbk).1).trans hbk,aM hown hb,hne⟩
 rcases h with h|h
 · exact .inl (key _ h)
 · exact .inr (key _ h)
theorem zcN:fw.globalNamed "internal/strconv.uint64pow10" =some 2:=by kernel_rfl
def zcy (xs:List Chg)(w:e_)(k:Nat)(wr:e_):Prop:=fK 123 5 w.heap.size w.heap.size (fI (eE (xs.take k))) wr∧fi w.heap.size w wr
def dR (W1:e_)(ss:List ByteArray)(v:fe)(wx:e_):Prop:=wx.ownsRow W1.heap.size 9 1 v ss.length (ss.flatMap strV)∧fi W1.heap.size W1 wx
theorem zfb (xs:List Chg)(k:Nat)(x:Chg)(h:xs[k]? =some x):eE (xs.take (k+1))=eE (xs.take k)++zd1 x:=by
 unfold eE
 rw [fo,h,fk]
 simp
theorem zk2 (xs:List Chg)(k:Nat)(x:Chg)(h:xs[k]? =some x):(eE (xs.take k)).length+(zd1 x).length≤(eE xs).length:=by
 have h1:=zfb xs k x h
 have h2:eE xs=eE (xs.take (k+1))++eE (xs.drop (k+1)):=by
  unfold eE
  rw [←fk,List.take_append_drop]
 have h3:=congrArg fm h2
 rw [fj,h1,fj] at h3
 omega
theorem zka (x:Chg):(zd1 x).length=(fJ ((en x).map (·.data.toList)) [32]).length+1:=by
 unfold zd1
 rw [fj]
 rfl
theorem zaw {W1 W:e_} (ss:List ByteArray)(cs:Array fe)(q n:Nat)(hq:q=W.heap.size)(hn:n=ss.length)(hs:cs.toList=ss.flatMap strV)(hl:ss.length≤5)(hb:fi W1.heap.size W1 W):dR W1 ss (.slice (some ⟨q,0,none⟩) n n) (W.alloc (.cells cs 9)):=by
 subst hq hn
 have hc:cs.size=ss.length*1:=by
  have:=congrArg fm hs
  rw [aC strV 1 (fun _=>rfl)] at this
  simpa using this
 have:=e_.ownsRow_lit (base:=W1.heap.size) (e:=9) (size:=1) W cs ss.length hb.size (by unfold maxLen;omega) hc
 rw [hs] at this
 exact⟨this,hb.alloc hb.size _⟩
theorem ziY {W1 wx w2:e_} {ss:List ByteArray} {v v':fe} {s:ByteArray} (h:dR W1 ss v wx)(hown:w2.ownsRow W1.heap.size 9 1 v' (ss.length+1) (ss.flatMap strV++[.string s]))(hg:(wx.alloc (.cells #[.string s] 9)).grownBy w2 v.ownBlock):dR W1 (ss++[s]) v' w2:=by
 refine⟨?_,(h.2.alloc h.2.size _).grown hg (by have:=h.2.size;simp;omega) (fun j hj=>(h.1.lt j hj).1)⟩
 rw [fj,fk]
 simpa [strV] using hown
theorem zjP {W1 wx w1 w2:e_} {ss ns:List ByteArray} {v v':fe} (h:dR W1 ss v wx)(hb:fi wx.heap.size wx w1)(hown:w2.ownsRow W1.heap.size 9 1 v' (ss.length+ns.length) (ss.flatMap strV++ns.flatMap strV))(hg:w1.grownBy w2 v.ownBlock):dR W1 (ss++ns) v' w2:=by
 have h2:=h.2.trans (hb.mono h.2.size)
 refine⟨?_,h2.grown hg h2.size (fun j hj=>(h.1.lt j hj).1)⟩
 rw [fj,fk]
 exact hown
theorem zhJ {W1 wx:e_} {ss:List ByteArray} {q c:Nat} (h:dR W1 ss (.slice (some ⟨q,0,none⟩) ss.length c) wx):(∀ (j:Nat) x,ss[j]? =some x→wx.cell? ⟨q,0+j,none⟩=some (.string x))∧q<wx.heap.size∧ss.length≤c:=by
 refine⟨fun j x hx=>?_,(h.1.lt q rfl).2,?_⟩
 · have hj:j<ss.length:=(List.getElem?_eq_some_iff.1 hx).1
   rw [Nat.zero_add,h.1.cellAt j (by omega)]
   have:=er strV 1 (fun _=>rfl) ss j x 0 _ hx rfl
   simpa using this
 · rcases h.1.2 with⟨h0,_⟩|⟨g,cap,cur,h0,_,_,hnc,_⟩
   · simp at h0
   · simp only [fG.injEq] at h0
     obtain⟨_,_,rfl⟩:=h0
     exact hnc
theorem zb9 {W1 wx:e_} {ss:List ByteArray} {v:fe} (h:dR W1 ss v wx)(hn:0<ss.length):∃ q c,v=.slice (some ⟨q,0,none⟩) ss.length c:=zci h.1 hn
theorem zi3 {w w':e_} {ss:List ByteArray} {v:fe} (h:w'.ownsRow w.heap.size 9 1 v ss.length (ss.flatMap strV)):∃ a cap,v=.slice a ss.length cap∧ab 1 strV Flat w' a ss:=ax (k:=1) (enc:=strV) (Ok:=Flat) (fun _=>rfl) h (fun _ _=>trivial)
theorem zcy.step {xs:List Chg} {w wr w4 w5:e_} {k:Nat} {x:Chg} {s:ByteArray} (hx:xs[k]? =some x)(h:zcy xs w k wr)(hs:s.data.toList=zd1 x)(hb4:fi wr.heap.size wr w4)
 (h5:fL 123 5 w.heap.size w.heap.size (.pointer (some ⟨w.heap.size,0,none⟩)) (fI (eE (xs.take k))++Lib.strCells s) w5) (hb5:fi w.heap.size w4 w5):zcy xs w (k+1) w5:=by
 obtain⟨h1,h2⟩:=h
 refine⟨?_,(h2.trans (hb4.mono h2.size)).trans hb5⟩
 rw [zfb xs k x hx,←hs,←zbd]
 exact .inr h5
theorem zj7 (s:ByteArray):(s++(⟨#[10]⟩:ByteArray)).data.toList=s.data.toList++[10]:=by
 rw [ByteArray.data_append,Array.toList_append]
theorem ziN:∀ (ls:List ByteArray),(ls.map (fun s:ByteArray=>s.data.toList)).length≤(fJ (ls.map (·.data.toList)) [32]).length+1
 | []=>by simp
 | [x]=>by simp
 | x::y::l=>by
   have ih:=ziN (y::l)
   unfold fJ at ih ⊢
   simp only [List.map_cons,fq,List.length_map] at ih ⊢
   rw [List.intercalate_cons_cons,fj,fj]
   simp only [fq,List.length_nil]
   omega
theorem zjO (ls:List ByteArray):ls.length≤(ls.map (fun s:ByteArray=>s.data.toList)).length:=by simp
theorem zk3:∀ (x:ByteArray)(v:fe),v∈strV x→v.oneCell'=true:=by
 intro x v hv
 simp only [strV,List.mem_singleton] at hv
 rw [hv]
 rfl
theorem zeL (c:Chg):0<(cO c).length∧(cO c).length≤2:=by
 unfold cO
 split
 · decide
 · split
   · exact⟨by simp,by simp⟩
   · split
     · exact⟨by simp,by simp⟩
     · split
       · exact⟨by simp,by simp⟩
       · exact⟨by simp,by simp⟩
theorem zi0 (a:Option Addr)(cap:Nat)(xs:List Chg)(w:e_)(hx:zez w a xs)(hl:xs.length≤40000000)(hid:∀ x∈xs,i64 x.id)(htx:(eE xs).length≤140737488355328)
 (hT:Lib.TabIs fw w "internal/strconv.uint64pow10" .u64 fM)
 (HF:∀ (x:Chg) (w1:e_),x∈xs→x.added=false→x.gone=false→fi w.heap.size w w1→x.lies w1→fh fw 19 #[.agg x.enc.toArray] w1 (zdC (fieldNames x) w1)) :
 fh fw 22 #[.slice a xs.length cap] w fun e w'=>e=.returned (.string ⟨(eE xs).toArray⟩)∧fi w.heap.size w w':=by
 generalize hQ:(fun(e:Ending) (w':e_)=>e=.returned (.string ⟨(eE xs).toArray⟩)∧fi w.heap.size w w')=Q
 have HQ:=h_ (fun w' (hb:fi w.heap.size w w')=>show Q (.returned (.string ⟨(eE xs).toArray⟩)) w' from hQ▸⟨rfl,hb⟩)
 clear hQ
 obtain⟨i0,hi,hz0,hz1,hz2⟩:=info_parts Tryz.info9
 have JI:=h_ hi;have J0:=h_ hz0;have J1:=h_ hz1;have J2:=h_ hz2
 clear hi hz0 hz1 hz2
 have HST:=h_ (show zcy xs w 0 (w.alloc (.cells #[.pointer none,.slice none 0 0] 123)) from⟨zer w,(fB _ _).alloc (fD _) _⟩)
 have HTB:=h_ (fun(w':e_) (hb:fi w.heap.size w w')=>Go.Joins.tab_stays zcN hT hb (fD _))
 have HX:=h_ hx
 have HF:=h_ HF
 have HID:=h_ hid
 have HTX:=h_ htx
 clear hT hx hid htx
 go_enter Tryz.func22,Tryz.ntmps22
 go_wp2_with fail
 go_loopw [9] (fun i wr=>∃ k:Nat,k≤xs.length∧i=.int .i64 k∧zcy xs w k wr) (fun i _=>xs.length-(intOf i).toNat)
 case atStart=>exact⟨0,by omega,rfl,HST.out⟩
 case round =>
  obtain⟨k,hk,rfl,hR⟩:=hrel
  clear HST
  have HR:=h_ hR
  have hwr:=hR.1
  have hbr:=hR.2
  have hszr:=hbr.size
  by_cases hlt:k<xs.length
  · obtain⟨b,off,x,rfl,hbl,hxk,hc,hxl⟩:=(ab.keeps Chg.keeps _ _ _ _ hbr HX.out).at_ hlt
    have hmem:x∈xs:=List.mem_of_getElem? hxk
    have hxid:=HID.out x hmem
    have hlen:=zk2 xs k x hxk
    rw [zka] at hlen
    have HLEN:=h_ (fE hlen HTX.out)
    have HSTEP:=h_ (fun(w4 w5:e_) (s:ByteArray) hs hb4 h5 hb5=>zcy.step (w4:=w4) (w5:=w5) (s:=s) hxk HR.out hs hb4 h5 hb5)
    have hsz:(fw.info? 54).map (·.size)=some x.enc.length:=by rw [ef,Chg.len]
    have HSZ:=h_ hsz
    have HRG:=h_ (show wr.rangeAt b (off+k*59) x.enc from fun j v e=>hc j v e)
    have HFX:=h_ (fun(w1:e_) (h1:x.added=false) (h2:x.gone=false) (hb:fi wr.heap.size wr w1)=>HF.out x w1 hmem h1 h2 (hbr.trans (hb.mono hszr)) (Chg.keeps _ _ _ hb hxl))
    have HDC:=h_ (fun(w1:e_) (hb:fi wr.heap.size wr w1)=>(show fh fw 66 #[.int .i64 x.id] w1 (fun e w'=>e=.returned (.string (decB x.id))∧fi w1.heap.size w1 w') from zgj x.id hxid.1 hxid.2 w1 (HTB.out w1 (hbr.trans (hb.mono hszr)))))
    have HWS:=h_ (fun(s:ByteArray) (w4:e_) (hb:fi wr.heap.size wr w4) (hl4:(fI (eE (xs.take k))).length+s.size≤140737488355328)=>eQ w.heap.size w.heap.size (fI (eE (xs.take k))) s w4 (zgo hwr hb) hl4 (fE hszr hb.size))
    have hpw:=zeL x
    have hpl:cO x=if x.sec=1 then [zk0] else if x.sec=2 then [zax,x.name] else if x.sec=3 then [zgD,decB x.id] else if x.sec=4 then [zdt,decB x.id] else [wASK]:=rfl
    have HLW:=h_ (show en x=cO x++(if x.added=true then [zjR] else if x.gone=true then [zlK] else fieldNames x) from rfl)
    have hfl:(fieldNames x).length≤5:=by
     unfold fieldNames
     split
     · decide
     · exact fE (zfn _) (zea x)
    have HLB:=h_ (show zd1 x=fJ ((en x).map (·.data.toList)) [32]++[10] from rfl)
    generalize zd1 x=LB at *
    generalize en x=LW at *
    generalize cO x=PW at *
    generalize fieldNames x=FN at *
    generalize hdone:(fI (eE (xs.take k))).length=dl at *
    have HDN:=h_ (show(eE (xs.take k)).length=dl from by rw [←hdone,Lib.byteCells_length])
    clear hdone hwr hxk hc hxl hsz hR hbr hlen hxid hmem HF
    obtain⟨sec,id,name,ad,gn,oh,nh,rg,nr,oe,ne,oc,nc⟩:=x
    simp only at hpl HDC HFX HLW
    generalize hcl:Chg.enc _=xe at *
    have h0:xe.toArray[0]? =some (.int .u8 sec):=by rw [←hcl];rfl
    have h1:xe.toArray[1]? =some (.int .i64 id):=by rw [←hcl];rfl
    have h2:xe.toArray[2]? =some (.string name):=by rw [←hcl];rfl
    have h3:xe.toArray[3]? =some (.bool ad):=by rw [←hcl];rfl
    have h4:xe.toArray[4]? =some (.bool gn):=by rw [←hcl];rfl
    have H1C:=h_ (show xe.toArray.all (·.oneCell')=true from by rw [←hcl];exact bq (Chg.one _))
    have HL:=h_ (show xe.toArray.size=59 from by rw [←hcl];rfl)
    have HI:=h_ (show(fw.info? 54).map (·.size)=some xe.toArray.size from by simpa using HSZ.out)
    have f0:=aa wr xe.toArray 54 0 _ h0
    have f1:=aa wr xe.toArray 54 1 _ h1
    have f2:=aa wr xe.toArray 54 2 _ h2
    have f3:=aa wr xe.toArray 54 3 _ h3
    have f4:=aa wr xe.toArray 54 4 _ h4
    have HRB:=h_ (fb wr (.cells xe.toArray 54))
    clear hcl h0 h1 h2 h3 h4
    go_upto_region 5 with(first|(refine ff rfl 54 (.tmp 11) rfl b (off+k*59) rfl xe _ HRG.out fy rfl HSZ.out ?_)|(refine wpList_store_row rfl 54 (.tmp 5) (.tmp 12) rfl wr.heap.size xe.toArray rfl rfl 54 _ (fb wr _) HI.out HL.out.symm H1C.out ?_;rw [e_.setRow_alloc_new]))
    have hb1:fi wr.heap.size wr (wr.alloc (.cells xe.toArray 54)):=(fB _ _).alloc (fD _) _
    have hs1:(wr.alloc (.cells xe.toArray 54)).heap.size=wr.heap.size+1:=ft _ _
    generalize wr.alloc (.cells xe.toArray 54)=W1 at *
    have HPL:=h_ hpl
    have HPW:=h_ hpw
    generalize hDI:decB id=DI at *
    clear hpl hDI hpw
    have hba:∀ o,fi (wr.heap.size+1) W1 (W1.alloc o):=fun o=>(fB _ _).alloc (by omega) o
    have hbb:∀ o,fi W1.heap.size W1 (W1.alloc o):=fun o=>(fB _ _).alloc (fD _) o
    have hbw:∀ o,fi wr.heap.size wr (W1.alloc o):=fun o=>hb1.alloc (by omega) o
    go_upto_block 2 with fail
    go_cut [6] (fun v wx=>∃ q c,v=.slice (some ⟨q,0,none⟩) PW.length c∧dR W1 PW (.slice (some ⟨q,0,none⟩) PW.length c) wx)
    case first =>
     by_cases s1:sec=1
     · subst s1
       have hp:PW=[zk0]:=by rw [HPL.out];simp
       have HP:=h_ hp
       clear hp HPL HPW
       go_wp2_with fail
       go_meet
       rw [HP.out]
       exact⟨_,_,rfl,zaw [zk0] _ _ _ (by rw [ft,hs1]) rfl rfl (by simp) (hbb _)⟩
     · have e1:(sec==1)=false:=by simpa using s1
       by_cases s2:sec=2
       · subst s2
         have HP:=h_ (show PW=[zax,name] from by rw [HPL.out];simp)
         clear HPL HPW s1
         go_wp2_with fail
         go_meet
         rw [HP.out]
         exact⟨_,_,rfl,zaw [zax,name] _ _ _ (by rw [ft,hs1]) rfl rfl (by simp) (hbb _)⟩
       · have e2:(sec==2)=false:=by simpa using s2
         by_cases s3:sec=3
         · subst s3
           have HP:=h_ (show PW=[zgD,DI] from by rw [HPL.out];simp)
           clear HPL HPW s1 s2
           go_wp2_with fail
           refine(HDC.out _ (hbw _)).mono ?_
           rintro e w3 ⟨rfl,hb3⟩
           have hb3':=(hbb _).trans (hb3.mono (by simp))
           go_wp2_with fail
           go_meet
           rw [HP.out]
           exact⟨_,_,rfl,zaw [zgD,DI] _ _ _ rfl rfl rfl (by simp) hb3'⟩
         · have e3:(sec==3)=false:=by simpa using s3
           by_cases s4:sec=4
           · subst s4
             have HP:=h_ (show PW=[zdt,DI] from by rw [HPL.out];simp)
             clear HPL HPW s1 s2 s3
             go_wp2_with fail
             refine(HDC.out _ (hbw _)).mono ?_
             rintro e w3 ⟨rfl,hb3⟩
             have hb3':=(hbb _).trans (hb3.mono (by simp))
             go_wp2_with fail
             go_meet
             rw [HP.out]
             exact⟨_,_,rfl,zaw [zdt,DI] _ _ _ rfl rfl rfl (by simp) hb3'⟩
           · have e4:(sec==4)=false:=by simpa using s4
             have HP:=h_ (show PW=[wASK] from by rw [HPL.out,if_neg s1,if_neg s2,if_neg s3,if_neg s4])
             clear HPL HPW
             go_wp2_with fail
             go_meet
             rw [HP.out]
             exact⟨_,_,rfl,zaw [wASK] _ _ _ hs1.symm rfl rfl (by simp) (fB _ _)⟩
    case rest =>
     obtain⟨q,c,rfl,hw⟩:=hcut
     have HW:=h_ hw
     have hcw:fi (wr.heap.size+1) W1 wc:=hs1▸hw.2
     have hcr:fi wr.heap.size wr wc:=hb1.trans (hw.2.mono (by omega))
     have hsc:=hcw.size
     have hpl2:=HPW.out.2
     have HRX:=h_ (ay ((hcw.block wr.heap.size (by omega)).trans HRB.out))
     have hws1:W1.heap.size≤wc.heap.size:=hw.2.size
     have HWO:=h_ hw.1
     have HPWX:=h_ HPW.out.1
     have HS1:=h_ hs1
     have hb1':=hb1
     clear hba hbb hbw HPL HPW HDC hw hs1 f0 f1 f2 hb1
     go_upto_block 3 with fail
     go_cut [6] (fun v wx=>∃ q c,v=.slice (some ⟨q,0,none⟩) LW.length c∧dR W1 LW (.slice (some ⟨q,0,none⟩) LW.length c) wx)
     case first =>
      have hp1:=HPWX.out
      have HPUSH:=h_ (fun(s:ByteArray) (v':fe) (w2:e_) (hown:w2.ownsRow W1.heap.size 9 1 v' (PW.length+1) (PW.flatMap strV++[.string s])) (hg:(wc.alloc (.cells #[.string s] 9)).grownBy w2 (fG (some ⟨q,0,none⟩) PW.length c).ownBlock)=>ziY HW.out hown hg)
      have HAPP:=h_ (fun(w1 w2:e_) (v':fe) (hb:fi wc.heap.size wc w1) (hown:w2.ownsRow W1.heap.size 9 1 v' (PW.length+FN.length) (PW.flatMap strV++FN.flatMap strV)) (hg:w1.grownBy w2 (fG (some ⟨q,0,none⟩) PW.length c).ownBlock)=>zjP HW.out hb hown hg)
      generalize PW.flatMap strV=pf at *
      cases ad
      · cases gn
        · have HLE:=h_ (show LW=PW++FN from HLW.out)
          have hpos:0<LW.length:=by rw [HLE.out,fj];omega
          have HC:=h_ (HFX.out wc rfl rfl hcr)
          clear HFX HLW HPUSH
          go_wp2_with (refine ff rfl 54 (.tmp 5) rfl wr.heap.size 0 rfl xe _ HRX.out fy rfl HSZ.out ?_)
          refine HC.out.mono ?_
          rintro e w3 ⟨v3,rfl,ho3,hb3⟩
          obtain⟨A3,c3,rfl,hS3⟩:=zi3 ho3
          have HO3:=h_ (aM HWO.out hb3)
          have HSS:=h_ hS3
          have HB3:=h_ hb3
          have hs3:=hb3.size
          clear ho3 hS3 hb3 HC f3 f4
          go_wp2_with (at_builtin;refine ai (enc:=strV) (Ok:=Flat) w3 rfl (.tmp 36) (.tmp 38) 55 rfl W1.heap.size 9 i0 _ 1 16 fx JI.out J0.out J1.out J2.out rfl (by decide) (fun _=>rfl) zk3 _ PW.length _ rfl HO3.out A3 c3 FN rfl HSS.out ?h63 ?hb ?hbase ?_)
          case h63=>unfold maxLen;omega
          case hb=>omega
          case hbase=>omega
          intro v' w2 hown' hgrow _
          have hlw:dR W1 LW v' w2:=by rw [HLE.out];exact HAPP.out w3 w2 v' HB3.out hown' hgrow
          obtain⟨q',c',rfl⟩:=zb9 hlw hpos
          have HLW2:=h_ hlw
          clear hlw hown' hgrow HAPP HO3 HWO
          go_wp2_with fail
          go_meet
          exact⟨q',c',rfl,HLW2.out⟩
        · have HLE:=h_ (show LW=PW++[zlK] from HLW.out)
          have hpos:0<LW.length:=by rw [HLE.out,fj];omega
          clear HFX HLW HAPP
          go_wp2_with (at_builtin;refine ak _ _ rfl (.tmp 49) (.tmp 50) 55 rfl W1.heap.size 9 i0 _ 1 16 fx JI.out J0.out J1.out J2.out rfl (by decide) _ PW.length _ rfl HWO.out _ rfl rfl rfl ?h1G ?h63G ?hbG ?hbaseG ?_)
          case h1G=>first|rfl|simp [fF]
          case h63G=>unfold maxLen;omega
          case hbG=>omega
          case hbaseG=>first|omega|(simp;omega)
          intro v' w2 hown' hgrow _
          have hlw:dR W1 LW v' w2:=by rw [HLE.out];exact HPUSH.out _ v' w2 hown' hgrow
          obtain⟨q',c',rfl⟩:=zb9 hlw hpos
          have HLW2:=h_ hlw
          clear hlw hown' hgrow HPUSH HWO
          go_wp2_with fail
          go_meet
          exact⟨q',c',rfl,HLW2.out⟩
      · have HLE:=h_ (show LW=PW++[zjR] from HLW.out)
        have hpos:0<LW.length:=by rw [HLE.out,fj];omega
        clear HFX HLW HAPP
        go_wp2_with (at_builtin;refine ak _ _ rfl (.tmp 43) (.tmp 44) 55 rfl W1.heap.size 9 i0 _ 1 16 fx JI.out J0.out J1.out J2.out rfl (by decide) _ PW.length _ rfl HWO.out _ rfl rfl rfl ?h1A ?h63A ?hbA ?hbaseA ?_)
        case h1A=>first|rfl|simp [fF]
        case h63A=>unfold maxLen;omega
        case hbA=>omega
        case hbaseA=>first|omega|(simp;omega)
        intro v' w2 hown' hgrow _
        have hlw:dR W1 LW v' w2:=by rw [HLE.out];exact HPUSH.out _ v' w2 hown' hgrow
        obtain⟨q',c',rfl⟩:=zb9 hlw hpos
        have HLW2:=h_ hlw
        clear hlw hown' hgrow HPUSH HWO
        go_wp2_with fail
        go_meet
        exact⟨q',c',rfl,HLW2.out⟩
     case rest =>
      obtain⟨q',c',rfl,hw⟩:=hcut
      obtain⟨hcells,hq',hcap'⟩:=zhJ hw
      have hlen':=HLEN.out
      have hb4':=hb1'.trans (hw.2.mono (by rw [HS1.out];omega))
      have HJ:=h_ (Tryz.strings_Join q' 0 c' LW ⟨#[32]⟩ wc hcells hq' (by
       have h1:=fE (zjO LW) (ziN LW)
       omega) hcap' (by have h1:(fJ (LW.map (·.data.toList)) [32]).length+1≤140737488355328:=by omega
                        exact fE (Nat.le_succ _) h1))
      have hS:((⟨(fJ (LW.map (·.data.toList)) (⟨#[32]⟩:ByteArray).data.toList).toArray⟩:ByteArray)).data.toList=fJ (LW.map (·.data.toList)) [32]:=rfl
      generalize (⟨(fJ (LW.map (·.data.toList)) (⟨#[32]⟩:ByteArray).data.toList).toArray⟩:ByteArray)=S at *
      have hSn:(S++(⟨#[10]⟩:ByteArray)).data.toList=LB:=by rw [zj7,hS,HLB.out]
      have hSz:dl+(S++(⟨#[10]⟩:ByteArray)).size≤140737488355328:=by
       have h1:(S++(⟨#[10]⟩:ByteArray)).size=(S++(⟨#[10]⟩:ByteArray)).data.toList.length:=rfl
       rw [h1,zj7,hS,fj,←HDN.out]
       exact hlen'
      have hnS:¬ 9223372036854775807<S.size+1:=by
       have h1:(S++(⟨#[10]⟩:ByteArray)).size=S.size+1:=ByteArray.size_append
       omega
      have HWC:=h_ (fun(w4:e_) (h:fi wc.heap.size wc w4)=>HWS.out (S++(⟨#[10]⟩:ByteArray)) w4 (hb4'.trans (h.mono hb4'.size)) hSz)
      have HFI:=h_ (fun(w4 w5:e_) (h:fi wc.heap.size wc w4) h5 hb5=>HSTEP.out w4 w5 (S++(⟨#[10]⟩:ByteArray)) hSn (hb4'.trans (h.mono hb4'.size)) h5 hb5)
      clear hcells hq' hcap' hlen' hS hSn hSz HWS HSTEP HLEN HDN f3 f4 hcw hcr
      go_wp2_with fail
      refine HJ.out.mono ?_
      rintro e w4 ⟨rfl,hb4⟩
      have HB4:=h_ hb4
      clear hb4 HJ
      go_wp2_with fail
      refine(HWC.out w4 HB4.out).mono ?_
      rintro e w5 ⟨rfl,h5,hb5⟩
      have HR5:=h_ (HFI.out w4 w5 HB4.out h5 hb5)
      clear h5 hb5 HWC HFI
      go_wp2_with fail
      go_roundw
      case rel=>exact⟨k+1,by omega,by go_num,HR5.out⟩
      case measure=>simp [intOf];omega
  · obtain rfl:k=xs.length:=by omega
    obtain⟨hB,hbw⟩:=hR
    rw [fp] at hB
    have HW:=h_ (Tryz.Builder_String_any w.heap.size w.heap.size (eE xs) wr hB hszr)
    have HE:=h_ (fun w1 (h:fi w.heap.size wr w1)=>HQ.out w1 (hbw.trans h))
    clear hB hbw hwr hbr HF
    go_wp2_with (go_at_call 69;refine HW.out.mono ?_;rintro e w1 ⟨rfl,h1⟩)
    exact HE.out _ h1
theorem zi9 (a b c d:Int)(w:e_):(binOp .neq 46 (.agg #[.int .i64 a,.int .i64 b]) (.agg #[.int .i64 c,.int .i64 d])).run fw w=.ok (.bool (!(a==c&&b==d))) w:=by
 simp [go_sem]
 repeat' split
 all_goals simp_all
theorem zlq {w w':e_} (fs:List Fld)(cs:Array fe)(hs:cs.toList=fs.flatMap Fld.enc)(hb:fi w.heap.size w w'):ab 2 Fld.enc Flat (w'.alloc (.cells cs 117)) (some ⟨w'.heap.size,0,none⟩) fs∧fi w.heap.size w (w'.alloc (.cells cs 117)):=by
 refine⟨.inr ⟨w'.heap.size,0,rfl,by simp,fun i x hx=>⟨fun j v hv=>?_,trivial⟩⟩,hb.alloc hb.size _⟩
 rw [show 0+i*2+j=i*2+j by omega,fg _ _ _ cs 117 (0,0) (fb w' _)]
 have:=er Fld.enc 2 (fun _=>rfl) fs i x j v hx hv
 rw [←hs] at this
 simpa using this
theorem zhq (c:Chg)(w:e_)(hsec:c.sec=3)(hl:c.lies w)(hfo:∀ r∈c.oe.rows,r.runs.length≤4000000)(hfn:∀ r∈c.ne.rows,r.runs.length≤4000000)(hle:c.oe.rows.length≤4000000):fh fw 62 #[.agg c.enc.toArray] w (zdD (fieldsOf c) w):=by
 have HSR:=h_ (fun(w1:e_) (h:fi w.heap.size w w1)=>za4 c.oe.at_ c.ne.at_ c.oe.cap c.ne.cap c.oe.rows c.ne.rows w1 (Ev.keeps _ _ _ h hl.1) (Ev.keeps _ _ _ h hl.2) hfo hfn hle)
 clear hl hfo hfn hle
 have HQ:=h_ (fun(a:Option Addr) (cap n:Nat) (w':e_) (hn:n=(fieldsOf c).length) (h:ab 2 Fld.enc Flat w' a (fieldsOf c)∧fi w.heap.size w w')=>(show zdD (fieldsOf c) w (.returned (.slice a n cap)) w' from⟨a,cap,by rw [hn],h.1,h.2⟩))
 generalize zdD (fieldsOf c) w=Q at *
 obtain⟨sec,id,name,ad,gn,oh,nh,rg,nr,oe,ne,oc,nc⟩:=c
 simp only at hsec
 subst hsec
 generalize hcl:Chg.enc _=cl
 have hc0:cl.toArray[0]? =some (.int .u8 3):=by rw [←hcl];rfl
 have hc29:cl.toArray[29]? =some (.int .i64 oe.id):=by rw [←hcl];rfl
 have hc30:cl.toArray[30]? =some (.int .i64 oe.inn):=by rw [←hcl];rfl
 have hc31:cl.toArray[31]? =some (.int .i64 oe.out):=by rw [←hcl];rfl
 have hc32:cl.toArray[32]? =some (.string oe.region):=by rw [←hcl];rfl
 have hc33:cl.toArray[33]? =some (.int .u8 oe.kind):=by rw [←hcl];rfl
 have hc34:cl.toArray[34]? =some (.string oe.speaker):=by rw [←hcl];rfl
 have hc35:cl.toArray[35]? =some (.slice oe.at_ oe.rows.length oe.cap):=by rw [←hcl];rfl
 have hc36:cl.toArray[36]? =some (.int .i64 ne.id):=by rw [←hcl];rfl
 have hc37:cl.toArray[37]? =some (.int .i64 ne.inn):=by rw [←hcl];rfl
 have hc38:cl.toArray[38]? =some (.int .i64 ne.out):=by rw [←hcl];rfl
 have hc39:cl.toArray[39]? =some (.string ne.region):=by rw [←hcl];rfl
 have hc40:cl.toArray[40]? =some (.int .u8 ne.kind):=by rw [←hcl];rfl
 have hc41:cl.toArray[41]? =some (.string ne.speaker):=by rw [←hcl];rfl
 have hc42:cl.toArray[42]? =some (.slice ne.at_ ne.rows.length ne.cap):=by rw [←hcl];rfl
 have f0:=aa w cl.toArray 54 0 _ hc0
 have f29:=aa w cl.toArray 54 29 _ hc29
 have f30:=aa w cl.toArray 54 30 _ hc30
 have f31:=aa w cl.toArray 54 31 _ hc31
 have f32:=aa w cl.toArray 54 32 _ hc32
 have f33:=aa w cl.toArray 54 33 _ hc33
 have f34:=aa w cl.toArray 54 34 _ hc34
 have f35:=aa w cl.toArray 54 35 _ hc35
 have f36:=aa w cl.toArray 54 36 _ hc36
 have f37:=aa w cl.toArray 54 37 _ hc37
 have f38:=aa w cl.toArray 54 38 _ hc38
 have f39:=aa w cl.toArray 54 39 _ hc39
 have f40:=aa w cl.toArray 54 40 _ hc40
 have f41:=aa w cl.toArray 54 41 _ hc41
 have f42:=aa w cl.toArray 54 42 _ hc42
 clear hcl hc0 hc29 hc30 hc31 hc32 hc33 hc34 hc35 hc36 hc37 hc38 hc39 hc40 hc41 hc42
 have hb0:fi (w.heap.size+1) (w.alloc (.cells cl.toArray 54)) (w.alloc (.cells cl.toArray 54)):=fB _ _
 have hs0:(w.alloc (.cells cl.toArray 54)).heap.size=w.heap.size+1:=ft _ _
 have HB:=h_ (fun(w1:e_) (h:fi (w.heap.size+1) (w.alloc (.cells cl.toArray 54)) w1)=>aq h)
 generalize hW0:w.alloc (.cells cl.toArray 54)=W0 at *
 have HW0:=h_ hW0
 have HSZ:=h_ hs0
 have hbd:fi (w.heap.size+1) W0 W0.drew:=hb0.drew
 have HAD:=h_ (fun(o:Obj)=>((hb0.alloc (by rw [HSZ.out];exact fD _) o).drew:fi (w.heap.size+1) W0 (W0.alloc o).drew))
 have HT0:=h_ (fun(w2 w3:e_) (h:fi (w.heap.size+1) W0 w2) (h3:fi w2.heap.size w2 w3)=>(h.trans (h3.mono (by have:=h.size;rw [HSZ.out] at this;exact this)):fi (w.heap.size+1) W0 w3))
 have HLT:=h_ (fun(w2:e_) (h:fi (w.heap.size+1) W0 w2)=>(show w.heap.size+1≤w2.heap.size by have:=h.size;rw [HSZ.out] at this;exact this))
 clear hW0 hs0
 go_enter Tryz.func62,Tryz.ntmps62
 go_upto_region 1 with fail
 rw [HW0.out]
 go_upto_region 9 with fail
 go_cut [7,8] (fun v1 v2 wx=>∃ g1 g2:Nat,v1=.pointer (some ⟨g1,0,none⟩)∧v2=.pointer (some ⟨g2,0,none⟩)∧wx.heap[g1]? =some (.cells #[fH .i64 oe.id,.int .i64 oe.inn,.int .i64 oe.out,.string oe.region,.int .u8 oe.kind,.string oe.speaker,.slice oe.at_ oe.rows.length oe.cap] 50 (0,0))∧wx.heap[g2]? =some (.cells #[fH .i64 ne.id,.int .i64 ne.inn,.int .i64 ne.out,.string ne.region,.int .u8 ne.kind,.string ne.speaker,.slice ne.at_ ne.rows.length ne.cap] 50 (0,0))∧fi (w.heap.size+1) W0 wx)
 case first =>
  go_region_held3 (fun w'=>fi (w.heap.size+1) W0 w') (repeat (first|with_reducible assumption|with_reducible exact hbd|with_reducible exact HAD.out _|with_reducible refine fi.drew ?_|with_reducible refine fi.setCell ?_ (by dsimp only;first|omega|(have:=HSZ.out;simp;omega)) _|with_reducible refine fC ?_ (by first|(rw [HSZ.out];exact fD _)|(simp [HSZ.out])) _)) (fail)
  all_goals
   go_wp2_with fail
   go_meet
  · exact⟨_,_,rfl,rfl,ar (fb _ _),aD _ (by simp),((hb0.alloc (by rw [HSZ.out];exact fD _) _).alloc (by simp [HSZ.out]) _).drew⟩
  · exact⟨_,_,rfl,rfl,aD _ (by simp),ar (fb _ _),((hb0.alloc (by rw [HSZ.out];exact fD _) _).alloc (by simp [HSZ.out]) _).drew⟩
 case rest =>
  obtain⟨g1,g2,rfl,rfl,hg1,hg2,hcw⟩:=hcut
  have hl1:=(fN.1 hg1).1
  have hl2:=(fN.1 hg2).1
  have k1:∀ (w':e_),fi wc.heap.size wc w'→∀ (j:Nat),w'.cell? ⟨g1,j,none⟩=_:=fun w' h j=>fg _ _ j _ 50 (0,0) ((h.block g1 hl1).trans hg1)
  have k2:∀ (w':e_),fi wc.heap.size wc w'→∀ (j:Nat),w'.cell? ⟨g2,j,none⟩=_:=fun w' h j=>fg _ _ j _ 50 (0,0) ((h.block g2 hl2).trans hg2)
  have HCW:=h_ hcw
  have hwc:fi wc.heap.size wc wc:=fB _ _
  clear f0 f29 f30 f31 f32 f33 f34 f35 f36 f37 f38 f39 f40 f41 f42 hb0 hbd hg1 hg2 hl1 hl2 hcw HAD
  have hwd:fi wc.heap.size wc wc.drew:=hwc.drew
  have HS:=h_ (HSR.out wc.drew (HB.out _ (HT0.out _ _ HCW.out hwd)))
  have r1:=fun wx=>zi9 oe.inn oe.out ne.inn ne.out wx
  generalize hRE:cP oe.rows ne.rows=RE at *
  have HRE:=h_ hRE
  clear hRE
  go_upto_region 10 with fail
  go_region_held3 (fun w'=>fi wc.heap.size wc w') (repeat (first|with_reducible assumption|with_reducible exact hwd|with_reducible refine fC ?_ (by first|exact fD _|(have:=hw3.size;exact this)) _)) (first
   | (go_at_call 84;(with_reducible refine HS.out.mono ?_);rintro e w3 ⟨rfl,hb3⟩;have hw3:fi wc.heap.size wc w3:=hwd.trans (hb3.mono hwd.size);clear hb3))
  go_wp2_with fail
  have hbf:=HB.out _ (HT0.out _ _ HCW.out hw3)
  exact HQ.out _ _ _ _ rfl (zlq _ _ (by simp [fieldsOf,Fld.enc,HRE.out,zkZ,zax,zmg,ziz,zme,Bool.not_and,bne]) hbf)
theorem zgr (A:Option Addr)(c:Nat)(xs:List Chg)(w:e_)(hT:Lib.TabIs fw w "internal/strconv.uint64pow10" .u64 fM)(hx:zez w A xs)(hxc:xs.map Chg.c=[awC1,awC2]) :
 fh fw 22 #[.slice A xs.length c] w fun e w'=>e=.returned (.string ⟨zkN.toArray⟩)∧fi w.heap.size w w':=by
 have ht:=zl6 hxc
 have hm:∀ x∈xs,x.c=awC1∨x.c=awC2:=fun x hx=>by
  have:x.c∈xs.map Chg.c:=List.mem_map.2 ⟨x,hx,rfl⟩
  rw [hxc] at this
  simpa using this
 have hn:xs.length=2:=by
  have:=congrArg fm hxc
  simpa using this
 have h:=zi0 A c xs w hx (by omega) (fun x hx=>?_) (by rw [ht];decide) hT (fun x w1 hx h1 h2 hb hl=>?_)
 · rw [ht] at h
   exact h
 · rcases hm x hx with h|h
   · have h0:x.id=0:=congrArg ChgC.id h
     rw [h0]
     exact⟨by decide,by decide⟩
   · exact(zkI h).1
 · rcases hm x hx with h|h
   · have h0:x.gone=true:=congrArg ChgC.gone h
     rw [h0] at h2
     cases h2
   · have hs:x.sec=3:=congrArg ChgC.sec h
     obtain⟨_,hfo,hfn⟩:=zkI h
     exact zhs x w1 fun w2 hb2=>zhq x w2 hs (Chg.keeps _ _ _ hb2 hl) (fun r hr=>(hfo.2.2.2.2.2.2.2.1 r hr).2.1) (fun r hr=>(hfn.2.2.2.2.2.2.2.1 r hr).2.1) hfo.2.2.2.2.2.2.2.2
end Go.Proofs.YtnlnmbcaongehaaGreatDoor
