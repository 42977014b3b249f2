/- The contract of the reference's events: the events behind a change. (printed by gen_refevs17.py) The contract of the reference's Clone of documents. (printed by gen_refclone.py) The reference's Same of documents with equal contents; the reference's there. (printed by gen_refdocsame.py) -/
import Derived.Test.YtnlnmbcaongehaaGreatDoorA10
set_option linter.unusedVariables false
set_option linter.unusedSimpArgs false
set_option maxRecDepth 100000
set_option maxHeartbeats 12800000
open Go.Lib renaming hid→h_
open Go renaming World→e_,Value→fb,cell_of_row→fe,heap_setCell_same→ff,info_parts→fg,below_drewN→fh,heap_alloc_last→fi
open Nat renaming le_refl→fj,le_trans→fk,add_zero→fm,lt_of_lt_of_le→fo,zero_add→fp
open List renaming mem_of_getElem?→fq,take_length→fr,nil_append→ft,mem_append→fu,map_cons→fw,mem_map→fx
open Go.RowKit renaming Below→fy
open Go.Proofs.Tryz renaming prog→fz,underlying24→fA
open Go.RowKit.Below renaming refl→fB,heap_setCell→fC,heap_alloc→fD
open Go.World renaming size_alloc→fE,frozen?→fF,ownsRow_lit→fG
open Go.Value renaming string→fH,int→fI
open Option.some renaming inj→fJ
namespace Go.Proofs.YtnlnmbcaongehaaGreatDoor
open Go.RowKit
def zgC (cs:List EvC)(w:e_)(e:Ending)(w':e_):Prop:=∃ v zs,e=.returned v∧zfD w v zs w'∧(zs.map Ev.c).Perm cs∧(zs.map Ev.c).Pairwise fun x y=>evLe x y=true
def bF (id:Int)(xs:List Ev):List Ev:=xs.filter fun z=>!(z.id==id)
theorem zkg {id:Int} {xs:List Ev} {k:Nat} {e:Ev} (h:xs[k]? =some e):bF id (xs.take (k+1))=bF id (xs.take k)++(if e.id=id then [] else [e]):=by
 unfold bF
 rw [List.take_add_one,h,List.filter_append]
 congr 1
 by_cases hi:e.id=id<;>simp [hi]
theorem ziM (id:Int)(xs:List Ev)(k:Nat):(bF id (xs.take k)).length≤k:=by
 unfold bF
 exact fk (List.length_filter_le _ _) (by simp;omega)
theorem zln {id:Int} {xs:List Ev} {k:Nat} {z:Ev} (h:z∈bF id (xs.take k)):z∈xs:=List.mem_of_mem_take (List.mem_filter.1 h).1
theorem zmp (id:Int)(xs:List Ev):(bF id xs).map Ev.c=(xs.map Ev.c).filter fun z=>!(z.id==id):=by
 unfold bF
 induction xs with
 | nil=>rfl
 | cons x l ih =>
   simp only [fw,List.filter_cons]
   show List.map Ev.c (if (!x.id==id)=true then _ else _)=if (!x.id==id)=true then _ else _
   split
   · rw [fw,ih]
   · exact ih
def zcz (id:Int)(xs:List Ev)(w5:e_)(k:Nat)(v:fb)(wr:e_):Prop:=wr.ownsRow w5.heap.size 50 7 v (bF id (xs.take k)).length ((bF id (xs.take k)).flatMap Ev.enc)∧fy w5.heap.size w5 wr
theorem zcn {B:Nat} {w':e_} {v:fb} {ys:List Ev} (h:w'.ownsRow B 50 7 v ys.length (ys.flatMap Ev.enc))(hl:∀ z∈ys,z.lies w'):∃ a c,v=.slice a ys.length c∧bK w' a ys :=
 ax (k:=7) (enc:=Ev.enc) (Ok:=Ev.lies) (fun _=>rfl) h hl
theorem zeI (a:Option Addr)(cap:Nat)(xs:List Ev)(x:Chg)(w:e_)(hx:bK w a xs)(hxl:x.ne.lies w)(hf:∀ x∈xs,x.rows.length≤4000000∧∀ r∈x.rows,r.runs.length≤4000000)(hfn:x.ne.rows.length≤4000000∧∀ r∈x.ne.rows,r.runs.length≤4000000)(hl:xs.length≤4000000) :
 Calls fz 116 #[.slice a xs.length cap,.agg x.enc.toArray] w (zgC ((xs.map Ev.c).filter (fun z=>!(z.id==x.id))++(if x.gone=true then none else some x.c.newEv).toList) w):=by
 have HX:=h_ (fun(w1:e_) (h:fy w.heap.size w w1)=>bK.later hx h)
 have HCL:=h_ (fun(w1:e_) (h:fy w.heap.size w w1)=>cH x.ne w1 (Ev.keeps _ _ _ h hxl) hfn.2 hfn.1)
 have HQ:=h_ (fun(v:fb) (zs ys:List Ev) (w3 w':e_) (hb:fy w.heap.size w w3) (hs:zfD w3 v zs w') (hp:(zs.map Ev.c).Perm (ys.map Ev.c)) (ho:(zs.map Ev.c).Pairwise fun x y=>evLe x y=true) (hy:ys.map Ev.c=(xs.map Ev.c).filter (fun z=>!(z.id==x.id))++(if x.gone=true then none else some x.c.newEv).toList)=>(show zgC ((xs.map Ev.c).filter (fun z=>!(z.id==x.id))++(if x.gone=true then none else some x.c.newEv).toList) w (.returned v) w' from
  ⟨v,zs,rfl,⟨aU hs.1 hb.size,fun z hz=>⟨(hs.2.1 z hz).1,fun b hu=>fk hb.size ((hs.2.1 z hz).2 b hu)⟩,hb.trans (hs.2.2.mono hb.size)⟩,hy▸hp,ho⟩))
 generalize zgC ((xs.map Ev.c).filter (fun z=>!(z.id==x.id))++(if x.gone=true then none else some x.c.newEv).toList) w=Q at *
 have HKC:=h_ (zmp x.id xs)
 have HLX:=h_ (fun(w1:e_) (h:fy w.heap.size w w1) (z:Ev) (hz:z∈xs)=>(zbS (bK.later hx h) hz))
 have HF:=h_ hf
 have HFN:=h_ hfn
 obtain⟨j0,hj,hy0,hy1,hy2⟩:=fg Tryz.info50
 have JI:=h_ hj;have J0:=h_ hy0;have J1:=h_ hy1;have J2:=h_ hy2
 clear hj hy0 hy1 hy2 hx hxl hf hfn
 obtain⟨sec,id,name,ad,gn,oh,nh,rg,nr,oe,ne,oc,nc⟩:=x
 have HNE:=h_ (show(Chg.c ⟨sec,id,name,ad,gn,oh,nh,rg,nr,oe,ne,oc,nc⟩).newEv=⟨id,ne.c.inn,ne.c.out,ne.c.region,ne.c.kind,ne.c.speaker,ne.c.rows⟩ from rfl)
 generalize (Chg.c ⟨sec,id,name,ad,gn,oh,nh,rg,nr,oe,ne,oc,nc⟩).newEv=NEV at *
 generalize hcl:Chg.enc _=cl at *
 have hc1:cl.toArray[1]? =some (.int .i64 id):=by rw [←hcl];rfl
 have hc4:cl.toArray[4]? =some (.bool gn):=by rw [←hcl];rfl
 have hc36:cl.toArray[36]? =some (.int .i64 ne.id):=by rw [←hcl];rfl
 have hc37:cl.toArray[37]? =some (.int .i64 ne.inn):=by rw [←hcl];rfl
 have hc38:cl.toArray[38]? =some (.int .i64 ne.out):=by rw [←hcl];rfl
 have hc39:cl.toArray[39]? =some (.string ne.region):=by rw [←hcl];rfl
 have hc40:cl.toArray[40]? =some (.int .u8 ne.kind):=by rw [←hcl];rfl
 have hc41:cl.toArray[41]? =some (.string ne.speaker):=by rw [←hcl];rfl
 have hc42:cl.toArray[42]? =some (.slice ne.at_ ne.rows.length ne.cap):=by rw [←hcl];rfl
 have f1:=aa w cl.toArray 54 1 _ hc1
 have f4:=aa w cl.toArray 54 4 _ hc4
 have f36:=aa w cl.toArray 54 36 _ hc36
 have f37:=aa w cl.toArray 54 37 _ hc37
 have f38:=aa w cl.toArray 54 38 _ hc38
 have f39:=aa w cl.toArray 54 39 _ hc39
 have f40:=aa w cl.toArray 54 40 _ hc40
 have f41:=aa w cl.toArray 54 41 _ hc41
 have f42:=aa w cl.toArray 54 42 _ hc42
 clear hcl hc1 hc4 hc36 hc37 hc38 hc39 hc40 hc41 hc42
 have hb0:fy (w.heap.size+1) (w.alloc (.cells cl.toArray 54)) (w.alloc (.cells cl.toArray 54)):=fB _ _
 have hs0:(w.alloc (.cells cl.toArray 54)).heap.size=w.heap.size+1:=fE _ _
 have HB:=h_ (fun(w1:e_) (h:fy (w.heap.size+1) (w.alloc (.cells cl.toArray 54)) w1)=>aq h)
 generalize hW0:w.alloc (.cells cl.toArray 54)=w5 at *
 have HW0:=h_ hW0
 have HSZ:=h_ hs0
 have HU:=h_ (fun(w':e_) (h:fy w5.heap.size w5 w')=>(show fy (w.heap.size+1) w5 w' from by rw [HSZ.out] at h;exact h))
 have HBW:=h_ (fun(w':e_) (h:fy w5.heap.size w5 w')=>HB.out w' (HU.out w' h))
 have k1:=fun(w':e_) (h:fy w5.heap.size w5 w')=>f1 w' (HU.out w' h)
 have k4:=fun(w':e_) (h:fy w5.heap.size w5 w')=>f4 w' (HU.out w' h)
 have k36:=fun(w':e_) (h:fy w5.heap.size w5 w')=>f36 w' (HU.out w' h)
 have k37:=fun(w':e_) (h:fy w5.heap.size w5 w')=>f37 w' (HU.out w' h)
 have k38:=fun(w':e_) (h:fy w5.heap.size w5 w')=>f38 w' (HU.out w' h)
 have k39:=fun(w':e_) (h:fy w5.heap.size w5 w')=>f39 w' (HU.out w' h)
 have k40:=fun(w':e_) (h:fy w5.heap.size w5 w')=>f40 w' (HU.out w' h)
 have k41:=fun(w':e_) (h:fy w5.heap.size w5 w')=>f41 w' (HU.out w' h)
 have k42:=fun(w':e_) (h:fy w5.heap.size w5 w')=>f42 w' (HU.out w' h)
 clear hW0 hs0 hb0 f1 f4 f36 f37 f38 f39 f40 f41 f42
 simp only at HNE HKC
 go_enter Tryz.func116,Tryz.ntmps116
 go_upto_region 1 with fail
 rw [HW0.out]
 have b00:fy w5.heap.size w5 w5:=fB _ _
 have H0:=h_ (show zcz id xs w5 0 (.slice none 0 0) w5 from⟨e_.ownsRow_nil _ _ _ _,b00⟩)
 go_wp2_with fail
 go_loopw [5,11] (fun v i wr=>∃ k:Nat,k≤xs.length∧i=.int .i64 k∧zcz id xs w5 k v wr) (fun _ i _=>xs.length-(intOf i).toNat)
 case atStart=>exact⟨0,by omega,rfl,H0.out⟩
 case round =>
  obtain⟨k,hk,rfl,hown,hb⟩:=hrel
  clear H0
  obtain⟨va,vc,rfl⟩:=aS hown
  have hsr:=hb.size
  by_cases hlt:k<xs.length
  · obtain⟨b0,off,e,rfl,hbl,hxk,hc,_⟩:=(HX.out _ (HBW.out _ hb)).at_ hlt
    have HKN:=h_ (zkg (id:=id) hxk)
    obtain⟨eid,einn,eout,ereg,ekind,esp,ea,ec,erows⟩:=e
    have d0:=hc 0 _ rfl;have d1:=hc 1 _ rfl;have d2:=hc 2 _ rfl;have d3:=hc 3 _ rfl;have d4:=hc 4 _ rfl;have d5:=hc 5 _ rfl;have d6:=hc 6 _ rfl
    simp only [fm] at d0
    have hbE:∀ o,fy w5.heap.size w5 (wr.alloc o):=fun o=>hb.alloc hsr o
    have HOW:=h_ (fun o=>hown.alloc o)
    have hkl:=ziM id xs k
    by_cases hid:eid=id
    · have q1:(eid != id)=false:=by rw [hid];simp
      have HR:=h_ (fun(o:Obj)=>(show zcz id xs w5 (k+1) (.slice va (bF id (xs.take k)).length vc) (wr.alloc o) from by
       unfold zcz
       rw [HKN.out,if_pos hid,List.append_nil]
       exact⟨HOW.out o,hbE o⟩))
      clear hxk hc hid
      go_wp2_with fail
      go_roundw
      case rel=>exact⟨k+1,by omega,by go_num,HR.out _⟩
      case measure=>simp [intOf];omega
    · have q1:(eid != id)=true:=by simpa using hid
      have HID:=h_ hid
      clear hxk hc hid
      go_wp2_with (at_builtin;refine ak _ _ rfl (.tmp 20) (.tmp 22) 24 rfl w5.heap.size 50 j0 _ 7 88 fA JI.out J0.out J1.out J2.out rfl (by decide) _ _ _ rfl (HOW.out _) _ rfl ((fE _ _).symm) rfl ?h1 ?h63 ?hb ?hbase ?_)
      case h1=>exact⟨rfl,rfl,rfl,rfl,rfl,rfl,rfl⟩
      case h63=>unfold maxLen;omega
      case hb=>omega
      case hbase=>first|omega|(simp;omega)
      intro v2 w2 hown2 hgrow2 _
      obtain⟨ho2,hb2⟩:=bZ hown (hbE _) (x:=(⟨eid,einn,eout,ereg,ekind,esp,ea,ec,erows⟩:Ev)) (cs:=#[fI .i64 eid,.int .i64 einn,.int .i64 eout,.string ereg,.int .u8 ekind,.string esp,.slice ea erows.length ec]) rfl hown2 hgrow2
      have HR:=h_ (show zcz id xs w5 (k+1) v2 w2 from by
       unfold zcz
       rw [HKN.out,if_neg HID.out]
       exact⟨ho2,hb2⟩)
      clear hown2 hgrow2 ho2 hb2 HOW
      go_wp2_with fail
      go_roundw
      case rel=>exact⟨k+1,by omega,by go_num,HR.out⟩
      case measure=>simp [intOf];omega
  · obtain rfl:k=xs.length:=by omega
    have hkl:=ziM id xs xs.length
    have hmem:∀ z∈bF id (xs.take xs.length),z∈xs:=fun z hz=>zln hz
    rw [fr] at hown hkl hmem ⊢
    have HKM:=h_ hmem
    have HKL:=h_ hkl
    have HOWN:=h_ hown
    have HBR:=h_ hb
    clear hown hmem hkl HX
    cases gn
    · have HC:=h_ (HCL.out wr (HBW.out _ hb))
      clear HCL
      go_upto_region 9 with fail
      go_wp2_with fail
      refine HC.out.mono ?_
      rintro e wC ⟨y,rfl,hyc,hyl,hyu,hbC⟩
      have hbc:=hb.trans (hbC.mono hb.size)
      have HYC:=h_ hyc
      have HYL:=h_ hyl
      have HYU:=h_ hyu
      have HOC:=h_ (fun o=>(aM HOWN.out hbC).alloc o)
      obtain⟨yid,yinn,yout,yreg,ykind,ysp,ya,yc,yrows⟩:=y
      have HBC:=h_ hbC
      have hcs:=hbc.size
      have hbca:∀ o,fy w5.heap.size w5 (wC.alloc o):=fun o=>hbc.alloc hcs o
      clear hyc hyl hyu hbC HC
      simp only [Ev.enc] at *
      go_wp2_with (at_builtin;refine ak _ _ rfl (.tmp 34) (.tmp 36) 24 rfl w5.heap.size 50 j0 _ 7 88 fA JI.out J0.out J1.out J2.out rfl (by decide) _ _ _ rfl (HOC.out _) _ rfl ((fE _ _).symm) rfl ?h1 ?h63 ?hb ?hbase ?_)
      case h1=>exact⟨rfl,rfl,rfl,rfl,rfl,rfl,rfl⟩
      case h63=>have:=HKL.out;unfold maxLen;omega
      case hb=>have:=HKL.out;omega
      case hbase=>first|omega|(simp;omega)
      intro v2 w2 hown2 hgrow2 hat2
      obtain⟨ho2,hb2⟩:=bZ (aM HOWN.out HBC.out) (hbca _) (x:=(⟨id,yinn,yout,yreg,ykind,ysp,ya,yc,yrows⟩:Ev)) (cs:=#[fI .i64 id,.int .i64 yinn,.int .i64 yout,.string yreg,.int .u8 ykind,.string ysp,.slice ya yrows.length yc]) rfl hown2 hgrow2
      have hy2:=zfG (y:=(⟨id,yinn,yout,yreg,ykind,ysp,ya,yc,yrows⟩:Ev)) (w1:=wC.alloc (.cells #[fI .i64 id,.int .i64 yinn,.int .i64 yout,.string yreg,.int .u8 ykind,.string ysp,.slice ya yrows.length yc] 50)) (Ev.keeps _ _ _ ((fB _ _).alloc (fj _) _) HYL.out) (fun b hu e=>absurd (HOWN.out.lt b e).2 (Nat.not_lt.2 (HYU.out b hu))) hgrow2 (by rw [fE];exact hat2)
      obtain⟨a3,c3,hv3,hS3⟩:=zcn (ys:=bF id xs++[(⟨id,yinn,yout,yreg,ykind,ysp,ya,yc,yrows⟩:Ev)]) ho2 (fun z hz=>by
       rcases fu.1 hz with h|h
       · exact HLX.out w2 (HBW.out _ hb2) z (HKM.out z h)
       · obtain rfl:z=(⟨id,yinn,yout,yreg,ykind,ysp,ya,yc,yrows⟩:Ev):=by simpa using h
         exact hy2.1)
      subst hv3
      have hl3:(bF id xs++[(⟨id,yinn,yout,yreg,ykind,ysp,ya,yc,yrows⟩:Ev)]).length≤4000001:=by have:=HKL.out;rw [List.length_append];simp only [List.length_cons,List.length_nil];omega
      have HS:=h_ (zbH a3 c3 (bF id xs++[(⟨id,yinn,yout,yreg,ykind,ysp,ya,yc,yrows⟩:Ev)]) w2 hS3 (fun z hz=>by
       rcases fu.1 hz with h|h
       · exact HF.out z (HKM.out z h)
       · obtain rfl:z=(⟨id,yinn,yout,yreg,ykind,ysp,ya,yc,yrows⟩:Ev):=by simpa using h
         have hr:yrows.map Row.runs=ne.rows.map Row.runs:=congrArg EvC.rows HYC.out
         refine⟨by have:=zaV hr;have:=HFN.out.1;simp only;omega,fun r hr'=>?_⟩
         have:r.runs∈ne.rows.map Row.runs:=hr▸fx.2 ⟨r,hr',rfl⟩
         obtain⟨r0,h0,he⟩:=fx.1 this
         rw [←he]
         exact HFN.out.2 r0 h0) hl3)
      have HFI:=h_ (fun(v:fb) (zs:List Ev) (w':e_) hs hp ho=>HQ.out v zs (bF id xs++[(⟨id,yinn,yout,yreg,ykind,ysp,ya,yc,yrows⟩:Ev)]) w2 w' (HBW.out _ hb2) hs hp ho (by
       rw [List.map_append,HKC.out,HNE.out]
       have i1:=congrArg EvC.inn HYC.out
       have i2:=congrArg EvC.out HYC.out
       have i3:=congrArg EvC.region HYC.out
       have i4:=congrArg EvC.kind HYC.out
       have i5:=congrArg EvC.speaker HYC.out
       have i6:=congrArg EvC.rows HYC.out
       rw [←i1,←i2,←i3,←i4,←i5,←i6]
       rfl))
      generalize (bF id xs++[(⟨id,yinn,yout,yreg,ykind,ysp,ya,yc,yrows⟩:Ev)])=OUT at *
      clear hown2 hgrow2 hat2 ho2 hb2 hy2 hS3 hl3 HOC
      go_wp2_with fail
      refine HS.out.mono ?_
      rintro e w3 ⟨v3,zs,rfl,hs3,hp3,ho3⟩
      have HE:=h_ (HFI.out v3 zs w3 hs3 hp3 ho3)
      obtain⟨a4,c4,rfl⟩:=aS hs3.1
      clear hs3 hp3 ho3 HS HFI
      go_wp2_with fail
      exact HE.out
    · obtain⟨a3,c3,hv3,hS3⟩:=zcn (ys:=bF id xs) HOWN.out (fun z hz=>HLX.out wr (HBW.out _ hb) z (HKM.out z hz))
      simp only [fb.slice.injEq] at hv3
      obtain⟨rfl,_,rfl⟩:=hv3
      have HS:=h_ (zbH va vc (bF id xs) wr hS3 (fun z hz=>HF.out z (HKM.out z hz)) (by have:=HKL.out;omega))
      have HFI:=h_ (fun(v:fb) (zs:List Ev) (w':e_) hs hp ho=>HQ.out v zs (bF id xs) wr w' (HBW.out _ hb) hs hp ho (by rw [HKC.out];simp))
      generalize bF id xs=OUT at *
      clear hS3 HCL
      go_wp2_with fail
      refine HS.out.mono ?_
      rintro e w3 ⟨v3,zs,rfl,hs3,hp3,ho3⟩
      have HE:=h_ (HFI.out v3 zs w3 hs3 hp3 ho3)
      obtain⟨a4,c4,rfl⟩:=aS hs3.1
      clear hs3 hp3 ho3 HS HFI
      go_wp2_with fail
      exact HE.out
theorem dq {w1 w2:e_} {B T K n:Nat} {v:fb} {xs:List fb} (h:w1.ownsRow B T K v n xs)(hb:∀ g,v.ownBlock=some g→w2.heap[g]? =w1.heap[g]?):w2.ownsRow B T K v n xs :=
 ⟨h.1,h.2.imp id (fun⟨g,cap,cur,q1,q2,q3,q4⟩=>⟨g,cap,cur,q1,q2,(hb g (by rw [q1];rfl)).trans q3,q4⟩)⟩
theorem zlG {W0 w1 w2:e_} {g0:Nat} {row:Option Nat} (h:W0.grownBy w1 (some g0))(h2:w1.grownBy w2 row)(hr:∀ j,row=some j→W0.heap.size≤j):W0.grownBy w2 (some g0) :=
 ⟨h2.os.trans h.os,h2.tape.trans h.tape,h2.output.trans h.output,fk h.size h2.size,fun k hk hne=>(h2.block k (fo hk h.size) (fun e=>by have:=hr k e.symm;omega)).trans (h.block k hk hne)⟩
theorem zga {W0 w1:e_} {g0:Nat} (h:W0.grownBy w1 (some g0))(o:Obj):W0.grownBy (w1.alloc o) (some g0) :=
 ⟨h.os,h.tape,h.output,fk h.size (by simp),fun k hk hne=>(fD w1 o k (fo hk h.size)).trans (h.block k hk hne)⟩
theorem zmw {W0 w1:e_} {g0 i:Nat} (h:W0.grownBy w1 (some g0))(v:fb):W0.grownBy (w1.setCell ⟨g0,i,none⟩ v) (some g0) :=
 ⟨h.os,h.tape,h.output,fk h.size (by simp),fun k hk hne=>(fC w1 ⟨g0,i,none⟩ v k (fun e=>hne (by rw [e]))).trans (h.block k hk hne)⟩
theorem zl5 {w W0 w1:e_} {g0:Nat} (h0:fy w.heap.size w W0)(h:W0.grownBy w1 (some g0))(hg:w.heap.size≤g0):fy w.heap.size w w1 :=
 ⟨h.os.trans h0.os,h.tape.trans h0.tape,h.output.trans h0.output,fk h0.size h.size,fun k hk=>(h.block k (fo hk h0.size) (fun e=>by have:=fJ e;omega)).trans (h0.block k hk)⟩
theorem zgZ {d:Doc} {w w3 wr w':e_} {a1 a2 a3:Option Addr} {c1 c2 c3 B:Nat} {zs:List Ev} (hB:w.heap.size+2≤B)(h3:w.heap.size+2≤w3.heap.size)(hR:wr.ownsRow B 44 7 (.slice a1 d.rG.length c1) d.rG.length (d.rG.flatMap Reg.enc))(hC:wr.ownsRow B 52 8 (.slice a3 d.cms.length c3) d.cms.length (d.cms.flatMap Cm.enc))
 (hE:zb6 w3.heap.size w3 (.slice a2 d.evs.length c2) zs wr) (hz:zs.map Ev.c=d.evs.map Ev.c) (hs:wr.heap.size≤w'.heap.size) (hw:∀ b,w.heap.size+2≤b→b<wr.heap.size→w'.heap[b]? =wr.heap[b]?) (hb:fy w.heap.size w w') :
 zaQ d.c w (.returned (.agg #[.string d.title,.string d.lA,.int .u8 d.rate,.bool d.drop,.int .i64 d.last,.slice a1 d.rG.length c1,.slice a2 d.evs.length c2,.slice a3 d.cms.length c3])) w':=by
 have hzl:=zaV hz
 have hlt:∀ (v:fb) (T K n:Nat) (xs:List fb),wr.ownsRow B T K v n xs→∀ g,v.ownBlock=some g→w'.heap[g]? =wr.heap[g]?:=fun v T K n xs h g e=>hw g (fk hB (h.lt g e).1) (h.lt g e).2
 have hR':=dq hR (hlt _ _ _ _ _ hR)
 have hC':=dq hC (hlt _ _ _ _ _ hC)
 obtain⟨a,c,e1,S1⟩:=ax (k:=7) (enc:=Reg.enc) (Ok:=Flat) (fun _=>rfl) hR' (fun _ _=>trivial)
 obtain⟨a',c',e3,S3⟩:=ax (k:=8) (enc:=Cm.enc) (Ok:=Flat) (fun _=>rfl) hC' (fun _ _=>trivial)
 obtain⟨hE1,hE2,hE3⟩:=hE
 have hE1':w'.ownsRow w3.heap.size 50 7 (.slice a2 d.evs.length c2) zs.length (zs.flatMap Ev.enc):=dq hE1 (fun g e=>hw g (fk h3 (hE1.lt g e).1) (hE1.lt g e).2)
 obtain⟨a'',c'',e2,S2⟩:=ax (k:=7) (enc:=Ev.enc) (Ok:=Ev.lies) (fun _=>rfl) hE1' (fun z hz=>Ev.frame (hE2 z hz).1 hs (fun b hu=>hw b (fk h3 ((hE2 z hz).2 b hu).2) (Ev.uses_lt (hE2 z hz).1 hu)))
 simp only [fb.slice.injEq] at e1 e2 e3
 obtain⟨rfl,_,rfl⟩:=e1
 obtain⟨rfl,_,rfl⟩:=e2
 obtain⟨rfl,_,rfl⟩:=e3
 refine⟨⟨d.title,d.lA,d.rate,d.drop,d.last,a1,c1,d.rG,a2,c2,zs,a3,c3,d.cms⟩,by simp only [Doc.enc,hzl],by simp only [Doc.c,Doc.hd,hz],⟨S1,S2,S3⟩,fun b hu=>?_,hb⟩
 rcases hu with⟨_,ad,h2,rfl⟩|(⟨_,ad,h2,rfl⟩|⟨z,hz,hu⟩)|⟨_,ad,h2,rfl⟩
 · have h2':a1=some ad:=h2
   have:=(hR.lt ad.block (by rw [h2'];rfl)).1
   omega
 · have h2':a2=some ad:=h2
   have:=(hE1.lt ad.block (by rw [h2'];rfl)).1
   omega
 · have:=((hE2 z hz).2 b hu).2
   omega
 · have h2':a3=some ad:=h2
   have:=(hC.lt ad.block (by rw [h2'];rfl)).1
   omega
theorem zcd (d:Doc)(w:e_)(hd:d.lies w)(hf:d.fits):Calls fz 56 #[.agg d.enc.toArray] w (zaQ d.c w):=by
 have HFIN:=h_ (fun(w3 wr w':e_) (a1 a2 a3:Option Addr) (c1 c2 c3:Nat) (zs:List Ev) h3 hR hC hE hz hs hw hb=>zgZ (d:=d) (w:=w) (w3:=w3) (wr:=wr) (w':=w') (a1:=a1) (a2:=a2) (a3:=a3) (c1:=c1) (c2:=c2) (c3:=c3) (B:=w.heap.size+2) (zs:=zs) (fj _) h3 hR hC hE hz hs hw hb)
 generalize zaQ d.c w=Q at *
 have HR:=h_ (fun(w1:e_) (h:fy w.heap.size w w1)=>hd.1.later h)
 have HE:=h_ (fun(w1:e_) (h:fy w.heap.size w w1)=>hd.2.1.later h)
 have HC:=h_ (fun(w1:e_) (h:fy w.heap.size w w1)=>hd.2.2.later h)
 have HF:=h_ hf
 have hlr:=hf.2.2.2.2.2.2.1
 have hle:=hf.2.2.2.2.2.2.2.2.1
 have hlc:=hf.2.2.2.2.2.2.2.2.2.2
 clear hd hf
 obtain⟨i0,hi,hx0,hx1,hx2⟩:=fg Tryz.info44
 have II:=h_ hi;have I0:=h_ hx0;have I1:=h_ hx1;have I2:=h_ hx2
 obtain⟨m0,hm,hm0,hm1,hm2⟩:=fg Tryz.info52
 have MI:=h_ hm;have M0:=h_ hm0;have M1:=h_ hm1;have M2:=h_ hm2
 obtain⟨j0,hj,hy0,hy1,hy2⟩:=fg Tryz.info50
 have JI:=h_ hj;have J0:=h_ hy0;have J1:=h_ hy1;have J2:=h_ hy2
 clear hi hx0 hx1 hx2 hm hm0 hm1 hm2 hj hy0 hy1 hy2
 obtain⟨title,lA,rate,drop,last,ra,rc,rG,ea,ec,evs,ca,cc,cms⟩:=d
 simp only [Doc.enc] at *
 have hk1:((w.alloc (.cells #[fH title,.string lA,.int .u8 rate,.bool drop,.int .i64 last,.slice ra rG.length rc,.slice ea evs.length ec,.slice ca cms.length cc] 27)).alloc (.cells #[fH ⟨#[]⟩,.string ⟨#[]⟩,.int .u8 0,.bool false,.int .i64 0,.slice none 0 0,.slice none 0 0,.slice none 0 0] 27)).heap[w.heap.size]? =some (.cells #[fH title,.string lA,.int .u8 rate,.bool drop,.int .i64 last,.slice ra rG.length rc,.slice ea evs.length ec,.slice ca cms.length cc] 27 (0,0)):=by
  rw [fD _ _ _ (by simp)]
  exact fi w _
 have hk2:((w.alloc (.cells #[fH title,.string lA,.int .u8 rate,.bool drop,.int .i64 last,.slice ra rG.length rc,.slice ea evs.length ec,.slice ca cms.length cc] 27)).alloc (.cells #[fH ⟨#[]⟩,.string ⟨#[]⟩,.int .u8 0,.bool false,.int .i64 0,.slice none 0 0,.slice none 0 0,.slice none 0 0] 27)).heap[w.heap.size+1]? =some (.cells #[fH ⟨#[]⟩,.string ⟨#[]⟩,.int .u8 0,.bool false,.int .i64 0,.slice none 0 0,.slice none 0 0,.slice none 0 0] 27 (0,0)):=by
  have:=fi (w.alloc (.cells #[fH title,.string lA,.int .u8 rate,.bool drop,.int .i64 last,.slice ra rG.length rc,.slice ea evs.length ec,.slice ca cms.length cc] 27)) (.cells #[fH ⟨#[]⟩,.string ⟨#[]⟩,.int .u8 0,.bool false,.int .i64 0,.slice none 0 0,.slice none 0 0,.slice none 0 0] 27)
  rwa [fE] at this
 have hbw:fy w.heap.size w ((w.alloc (.cells #[fH title,.string lA,.int .u8 rate,.bool drop,.int .i64 last,.slice ra rG.length rc,.slice ea evs.length ec,.slice ca cms.length cc] 27)).alloc (.cells #[fH ⟨#[]⟩,.string ⟨#[]⟩,.int .u8 0,.bool false,.int .i64 0,.slice none 0 0,.slice none 0 0,.slice none 0 0] 27)):=((fB _ _).alloc (fj _) _).alloc (by simp) _
 have hsz:((w.alloc (.cells #[fH title,.string lA,.int .u8 rate,.bool drop,.int .i64 last,.slice ra rG.length rc,.slice ea evs.length ec,.slice ca cms.length cc] 27)).alloc (.cells #[fH ⟨#[]⟩,.string ⟨#[]⟩,.int .u8 0,.bool false,.int .i64 0,.slice none 0 0,.slice none 0 0,.slice none 0 0] 27)).heap.size=w.heap.size+2:=by simp
 generalize hW0:(w.alloc (.cells #[fH title,.string lA,.int .u8 rate,.bool drop,.int .i64 last,.slice ra rG.length rc,.slice ea evs.length ec,.slice ca cms.length cc] 27)).alloc (.cells #[fH ⟨#[]⟩,.string ⟨#[]⟩,.int .u8 0,.bool false,.int .i64 0,.slice none 0 0,.slice none 0 0,.slice none 0 0] 27)=W0 at *
 have HW0:=h_ hW0
 have HSZ:=h_ hsz
 have HK2:=h_ hk2
 have HBW:=h_ (fun(w1:e_) (h:W0.grownBy w1 (some w.heap.size))=>zl5 hbw h (fj _))
 have c0:∀ (j:Nat),W0.cell? ⟨w.heap.size,j,none⟩=_:=fun j=>fe _ _ j _ 27 (0,0) hk1
 have c0a:∀ (o:Obj) (j:Nat),(W0.alloc o).cell? ⟨w.heap.size,j,none⟩=_:=fun o j=>fe _ _ j _ 27 (0,0) (ar hk1)
 have G0:=h_ (show W0.grownBy W0 (some w.heap.size) from⟨rfl,rfl,rfl,fj _,fun _ _ _=>rfl⟩)
 have HO0:=h_ (show(W0.alloc (.cells #[] 44)).ownsRow (w.heap.size+2) 44 7 (.slice (some ⟨W0.heap.size,0,none⟩) 0 0) 0 [] from fG (size:=7) W0 #[] 0 (by rw [HSZ.out];exact fj _) (by unfold maxLen;omega) rfl)
 have HK1:=h_ hk1
 clear hW0 hsz hk1 hk2 hbw
 go_enter Tryz.func56,Tryz.ntmps56
 go_upto_region 1 with fail
 rw [HW0.out]
 go_wp2_with (at_builtin;refine ai (enc:=Reg.enc) (Ok:=Flat) (W0.alloc (.cells #[] 44)) rfl (.tmp 6) (.tmp 8) 23 rfl (w.heap.size+2) 44 i0 _ 7 56 Tryz.underlying23 II.out I0.out I1.out I2.out rfl (by decide) (fun _=>rfl) Reg.one (.slice (some ⟨W0.heap.size,0,none⟩) 0 0) 0 [] rfl HO0.out ra rc rG rfl (HR.out _ (HBW.out _ (zga G0.out _))) ?h63 ?hb ?hbase ?_)
 case h63=>unfold maxLen;omega
 case hb=>omega
 case hbase=>have:=HSZ.out;simp;omega
 intro v1 w1 hown1 hgrow1 _
 have g1:=zlG (zga G0.out (.cells #[] 44)) hgrow1 (fun j hj=>by obtain rfl:=fJ hj;exact fj _)
 have hk1:=(hgrow1.block w.heap.size (by have:=HSZ.out;simp;omega) (fun e=>by have:=fJ (show some w.heap.size=some W0.heap.size from e);have:=HSZ.out;omega)).trans (ar HK1.out)
 try simp only [fp,ft] at hown1
 obtain⟨a1,c1,rfl⟩:=aS hown1
 have c1r:∀ (j:Nat),w1.cell? ⟨w.heap.size,j,none⟩=_:=fun j=>fe _ _ j _ 27 (0,0) hk1
 have z1r:∀ (j:Nat),w1.frozen? ⟨w.heap.size,j,none⟩=false:=fun j=>by simp [fF,hk1]
 have HG1:=h_ g1
 have HK1':=h_ hk1
 have HO1:=h_ hown1
 clear hgrow1 g1 hk1 hown1 c0 c0a
 go_upto_region 2 with fail
 have g2:=zmw (i:=5) HG1.out (.slice a1 rG.length c1)
 have hk2:=ff w1 w.heap.size 5 _ 27 (.slice a1 rG.length c1) HK1'.out
 have ho2:(w1.setCell ⟨w.heap.size,5,none⟩ (.slice a1 rG.length c1)).ownsRow (w.heap.size+2) 44 7 (.slice a1 rG.length c1) rG.length (rG.flatMap Reg.enc):=dq HO1.out (fun g e=>fC _ _ _ _ (by have:=(HO1.out.lt g e).1;simp only;omega))
 generalize w1.setCell ⟨w.heap.size,5,none⟩ (.slice a1 rG.length c1)=w2 at *
 have HG2:=h_ g2
 have HK2':=h_ hk2
 have c2r:∀ (j:Nat),w2.cell? ⟨w.heap.size,j,none⟩=(#[fH title,.string lA,.int .u8 rate,.bool drop,.int .i64 last,.slice a1 rG.length c1,.slice ea evs.length ec,.slice ca cms.length cc]:Array fb)[j]?:=fun j=>fe _ _ j _ 27 (0,0) HK2'.out
 have c2a:∀ (o:Obj) (j:Nat),(w2.alloc o).cell? ⟨w.heap.size,j,none⟩=(#[fH title,.string lA,.int .u8 rate,.bool drop,.int .i64 last,.slice a1 rG.length c1,.slice ea evs.length ec,.slice ca cms.length cc]:Array fb)[j]?:=fun o j=>fe _ _ j _ 27 (0,0) (ar HK2'.out)
 have HO2:=h_ ho2
 have HS2:=h_ (show w.heap.size+2≤w2.heap.size from by have:=g2.size;rw [HSZ.out] at this;exact this)
 have HP2:=h_ (show(w2.alloc (.cells #[] 52)).ownsRow (w.heap.size+2) 52 8 (.slice (some ⟨w2.heap.size,0,none⟩) 0 0) 0 [] from fG (size:=8) w2 #[] 0 HS2.out (by unfold maxLen;omega) rfl)
 clear g2 hk2 ho2 c1r z1r HG1 HO1 HK1'
 go_wp2_with (at_builtin;refine ai (enc:=Cm.enc) (Ok:=Flat) (w2.alloc (.cells #[] 52)) rfl (.tmp 11) (.tmp 13) 25 rfl (w.heap.size+2) 52 m0 _ 8 72 Tryz.underlying25 MI.out M0.out M1.out M2.out rfl (by decide) (fun _=>rfl) Cm.one (.slice (some ⟨w2.heap.size,0,none⟩) 0 0) 0 [] rfl HP2.out ca cc cms rfl (HC.out _ (HBW.out _ (zga HG2.out _))) ?h63c ?hbc ?hbasec ?_)
 case h63c=>unfold maxLen;omega
 case hbc=>omega
 case hbasec=>have:=HS2.out;simp;omega
 intro v3 w3 hown3 hgrow3 _
 have g3:=zlG (zga HG2.out (.cells #[] 52)) hgrow3 (fun j hj=>by obtain rfl:=fJ hj;exact HG2.out.size)
 have hk3:=(hgrow3.block w.heap.size (by have:=HS2.out;simp;omega) (fun e=>by have:=fJ (show some w.heap.size=some w2.heap.size from e);have:=HS2.out;omega)).trans (ar HK2'.out)
 have ho3:w3.ownsRow (w.heap.size+2) 44 7 (.slice a1 rG.length c1) rG.length (rG.flatMap Reg.enc):=dq HO2.out (fun g e=>(hgrow3.block g (by have:=(HO2.out.lt g e).2;simp;omega) (fun e'=>by have:=fJ (show some g=some w2.heap.size from e');have:=(HO2.out.lt g e).2;omega)).trans (fD w2 _ g (HO2.out.lt g e).2))
 try simp only [fp,ft] at hown3
 obtain⟨a3,c3,rfl⟩:=aS hown3
 have c3r:∀ (j:Nat),w3.cell? ⟨w.heap.size,j,none⟩=(#[fH title,.string lA,.int .u8 rate,.bool drop,.int .i64 last,.slice a1 rG.length c1,.slice ea evs.length ec,.slice ca cms.length cc]:Array fb)[j]?:=fun j=>fe _ _ j _ 27 (0,0) hk3
 have z3r:∀ (j:Nat),w3.frozen? ⟨w.heap.size,j,none⟩=false:=fun j=>by simp [fF,hk3]
 have HG3:=h_ g3
 have HK3:=h_ hk3
 have HO3:=h_ hown3
 have HP3:=h_ ho3
 clear hgrow3 g3 hk3 hown3 ho3 c2r c2a HG2 HO2 HK2' HP2
 go_upto_region 3 with fail
 have g4:=zmw (i:=7) HG3.out (.slice a3 cms.length c3)
 have hk4:=ff w3 w.heap.size 7 _ 27 (.slice a3 cms.length c3) HK3.out
 have ho4:(w3.setCell ⟨w.heap.size,7,none⟩ (.slice a3 cms.length c3)).ownsRow (w.heap.size+2) 44 7 (.slice a1 rG.length c1) rG.length (rG.flatMap Reg.enc):=dq HP3.out (fun g e=>fC _ _ _ _ (by have:=(HP3.out.lt g e).1;simp only;omega))
 have hp4:(w3.setCell ⟨w.heap.size,7,none⟩ (.slice a3 cms.length c3)).ownsRow (w.heap.size+2) 52 8 (.slice a3 cms.length c3) cms.length (cms.flatMap Cm.enc):=dq HO3.out (fun g e=>fC _ _ _ _ (by have:=(HO3.out.lt g e).1;simp only;omega))
 generalize w3.setCell ⟨w.heap.size,7,none⟩ (.slice a3 cms.length c3)=w4 at *
 have HG4:=h_ g4
 have HK4:=h_ hk4
 have HO4:=h_ ho4
 have HP4:=h_ hp4
 have HS4:=h_ (show w.heap.size+2≤w4.heap.size from by have:=g4.size;rw [HSZ.out] at this;exact this)
 have hs4:=HS4.out
 have HB4:=h_ (HBW.out _ g4)
 have c4r:∀ (w':e_),fy w4.heap.size w4 w'→∀ (j:Nat),w'.cell? ⟨w.heap.size,j,none⟩=(#[fH title,.string lA,.int .u8 rate,.bool drop,.int .i64 last,.slice a1 rG.length c1,.slice ea evs.length ec,.slice a3 cms.length c3]:Array fb)[j]?:=fun w' h j=>fe _ _ j _ 27 (0,0) ((h.block _ (by have:=HS4.out;omega)).trans HK4.out)
 have b00:fy w4.heap.size w4 w4:=fB _ _
 clear g4 hk4 ho4 hp4 c3r z3r HG3 HO3 HP3 HK3
 go_wp2_with fail
 go_loopw [3,19] (fun v i wr=>∃ k:Nat,k≤evs.length∧i=.int .i64 k∧dw evs w4 k v wr) (fun _ i _=>evs.length-(intOf i).toNat)
 case atStart=>exact⟨0,by omega,rfl,[],rfl,rfl,cM.start (fB _ _)⟩
 case round =>
  obtain⟨k,hk,rfl,zs,hzl,hzc,hgr⟩:=hrel
  have hb:=hgr.2.2
  by_cases hlt:k<evs.length
  · obtain⟨b,off,x,rfl,hbl,hx,hc,hok⟩:=(HE.out _ (HB4.out.trans (hb.mono (HB4.out.size)))).at_ hlt
    have hfx:=HF.out.2.2.2.2.2.2.2.1 x (fq hx)
    have hbs:=hb.size
    have HCL:=h_ (fun o=>cH x (wr.alloc o) (Ev.keeps _ _ _ ((fB _ _).alloc (fj _) o) hok) (fun r hr=>(hfx.2.2.2.2.2.2.2.1 r hr).2.1) hfx.2.2.2.2.2.2.2.2)
    have HST:=h_ (fun(w1 w2:e_) (v':fb) (y:Ev) (cs:Array fb) (hb:fy wr.heap.size wr w1) (hyc:y.c=x.c) (hyl:y.lies w1) (hyu:∀ b,y.uses b→wr.heap.size≤b) (hcs:cs.toList=y.enc) (hown:w2.ownsRow w4.heap.size 50 7 v' (k+1) (zs.flatMap Ev.enc++cs.toList)) (hg:(w1.alloc (.cells cs 50)).grownBy w2 u3.ownBlock) (hat:v'.ownBlock=u3.ownBlock∨v'.ownBlock=some (w1.heap.size+1))=>dw.step hx hzl hzc hgr hb hyc hyl hyu hcs hown hg hat)
    have hown0:=hgr.1
    rw [hzl] at hown0
    have HO:=h_ (fun(w1:e_) (hb:fy wr.heap.size wr w1)=>aM hown0 hb)
    obtain⟨zf,hzf⟩:∃ zf,zf=zs.flatMap Ev.enc:=⟨_,rfl⟩
    rw [←hzf] at HO HST
    have HBA:=h_ (fun(o:Obj) (w1:e_) (h1:fy (wr.alloc o).heap.size (wr.alloc o) w1)=>(show fy wr.heap.size wr w1 from((fB _ _).alloc (fj _) _).trans (h1.mono (by simp))))
    generalize x.c=xc at HCL HST
    have d0:=hc 0 _ rfl;have d1:=hc 1 _ rfl;have d2:=hc 2 _ rfl;have d3:=hc 3 _ rfl;have d4:=hc 4 _ rfl;have d5:=hc 5 _ rfl;have d6:=hc 6 _ rfl
    obtain⟨xid,xin,xout,xreg,xkind,xsp,xa,xcap,xrows⟩:=x
    simp only [Ev.enc,fm] at HCL d0 d1 d2 d3 d4 d5 d6
    clear hc hx hok hgr hzc hzl hfx hown0 hzf hb b00
    go_wp2_with fail
    refine(HCL.out _).mono ?_
    rintro e w5 ⟨y,rfl,hyc,hyl,hyu,hyb⟩
    have hbw:=HBA.out _ _ hyb
    have hs1:=hbw.size
    have HO5:=h_ (HO.out _ hbw)
    have HY:=h_ (fun w2 v' cs=>HST.out w5 w2 v' y cs hbw hyc hyl (fun b hu=>by have:=hyu b hu;simp at this;omega))
    obtain⟨yid,yin,yout,yreg,ykind,ysp,ya,ycap,yrows⟩:=y
    simp only [Ev.enc] at HY ⊢
    clear hyc hyl hyu hyb hbw HCL HO HST HBA d0 d1 d2 d3 d4 d5 d6
    go_wp2_with (at_builtin;refine ak _ _ rfl (.tmp 23) (.tmp 26) 24 rfl w4.heap.size 50 j0 _ 7 88 fA JI.out J0.out J1.out J2.out rfl (by decide) _ _ _ rfl HO5.out _ rfl rfl rfl ?h1 ?h63 ?hb ?hbase ?_)
    case h1=>first|exact⟨rfl,rfl,rfl,rfl,rfl,rfl,rfl⟩|(intro u hu;simp at hu;rcases hu with rfl|rfl|rfl|rfl|rfl|rfl|rfl<;>rfl)
    case h63=>unfold maxLen;omega
    case hb=>omega
    case hbase=>omega
    intro v' w6 hown' hgrow hat
    have R:=h_ (HY.out w6 v' _ rfl hown' hgrow hat)
    clear hown' hgrow hat
    go_wp2_with fail
    go_roundw
    case rel=>exact⟨k+1,by omega,by go_num,R.out⟩
    case measure=>simp [intOf];omega
  · obtain rfl:k=evs.length:=by omega
    obtain⟨a2,c2,hv2⟩:=aS hgr.1
    subst hv2
    have hgr2:=hgr
    rw [hzl] at hgr2 ⊢
    have hkr:=(hb.block w.heap.size (by have:=HS4.out;omega)).trans HK4.out
    have hkz:wr.heap[w.heap.size+1]? =some (.cells #[fH ⟨#[]⟩,.string ⟨#[]⟩,.int .u8 0,.bool false,.int .i64 0,.slice none 0 0,.slice none 0 0,.slice none 0 0] 27 (0,0)):=(hb.block (w.heap.size+1) (by have:=HS4.out;omega)).trans ((HG4.out.block (w.heap.size+1) (by rw [HSZ.out];omega) (by simp)).trans HK2.out)
    have HCR:=h_ hkr
    have zr:∀ (j:Nat),wr.frozen? ⟨w.heap.size,j,none⟩=false:=fun j=>by simp [fF,HCR.out]
    have hrg:=ay (w:=wr.setCell ⟨w.heap.size,6,none⟩ (.slice a2 evs.length c2)) (l:=(#[fH title,.string lA,.int .u8 rate,.bool drop,.int .i64 last,.slice a1 rG.length c1,.slice a2 evs.length c2,.slice a3 cms.length c3]:Array fb).toList) (ff wr w.heap.size 6 _ 27 (.slice a2 evs.length c2) hkr)
    have HRG:=h_ hrg
    have HKZ:=h_ (show(wr.setCell ⟨w.heap.size,6,none⟩ (.slice a2 evs.length c2)).heap[w.heap.size+1]? =some (.cells #[fH ⟨#[]⟩,.string ⟨#[]⟩,.int .u8 0,.bool false,.int .i64 0,.slice none 0 0,.slice none 0 0,.slice none 0 0] 27 (0,0)) from(fC _ _ _ _ (by simp only;omega)).trans hkz)
    have hsr:=hb.size
    have cz:∀ (cs:Array fb) (j:Nat),((wr.setCell ⟨w.heap.size,6,none⟩ (.slice a2 evs.length c2)).setRow (w.heap.size+1) cs).cell? ⟨w.heap.size+1,j,none⟩=cs[j]?:=fun cs j=>cell_setRow_same _ _ _ _ _ _ _ HKZ.out
    have HDI:=h_ (show(fz.info? 27).map (·.size)=some (#[fH title,.string lA,.int .u8 rate,.bool drop,.int .i64 last,.slice a1 rG.length c1,.slice a2 evs.length c2,.slice a3 cms.length c3]:Array fb).size from aI)
    have HDL:=h_ (show(fz.info? 27).map (·.size)=some (#[fH title,.string lA,.int .u8 rate,.bool drop,.int .i64 last,.slice a1 rG.length c1,.slice a2 evs.length c2,.slice a3 cms.length c3]:Array fb).toList.length from aI)
    have H1C:=h_ (show(#[fH title,.string lA,.int .u8 rate,.bool drop,.int .i64 last,.slice a1 rG.length c1,.slice a2 evs.length c2,.slice a3 cms.length c3]:Array fb).all (·.oneCell')=true from bq (Doc.one ⟨title,lA,rate,drop,last,a1,c1,rG,a2,c2,evs,a3,c3,cms⟩))
    have HEND:=h_ (HFIN.out w4 wr ((wr.setCell ⟨w.heap.size,6,none⟩ (.slice a2 evs.length c2)).setRow (w.heap.size+1) #[fH title,.string lA,.int .u8 rate,.bool drop,.int .i64 last,.slice a1 rG.length c1,.slice a2 evs.length c2,.slice a3 cms.length c3]) a1 a2 a3 c1 c2 c3 zs HS4.out (aM HO4.out (hb.mono (fj _))) (aM HP4.out (hb.mono (fj _))) (by rw [hzl] at hgr;exact hgr) (by rw [hzc,fr]) (by simp) (fun b h1 h2=>by rw [setRow_other _ _ _ _ (by omega),fC _ _ _ _ (by simp only;omega)]) (below_setRow ((HB4.out.trans (hb.mono HB4.out.size)).setCell (p:=⟨w.heap.size,6,none⟩) (fj _) _) (by omega) _))
    clear hgr hgr2 hzc hkr hkz hrg
    go_wp2_with (first|(refine wpList_load_mid rfl 27 (.tmp 1) rfl w.heap.size 0 rfl _ _ HRG.out Tryz.underlying27 rfl HDL.out ?_)|(refine wpList_store_row rfl 27 (.tmp 2) (.tmp 31) rfl (w.heap.size+1) #[fH title,.string lA,.int .u8 rate,.bool drop,.int .i64 last,.slice a1 rG.length c1,.slice a2 evs.length c2,.slice a3 cms.length c3] rfl rfl 27 _ HKZ.out HDI.out rfl H1C.out ?_))
    refine bodyPost_ret (v:=.agg #[fH title,.string lA,.int .u8 rate,.bool drop,.int .i64 last,.slice a1 rG.length c1,.slice a2 evs.length c2,.slice a3 cms.length c3]) (by simp [results,Tryz.results56,go_sem,cz]) rfl HEND.out
end Go.Proofs.YtnlnmbcaongehaaGreatDoor
namespace Go.Proofs.YtnlnmbcaongehaaGreatDoor
open Go.RowKit
attribute [local go_sem ↓] Go.wp_at_zero Go.wp_at_succ
theorem zbg (c:Chg)(t s:Bool)(w:e_):Calls fz 114 #[.agg c.enc.toArray,.bool t,.bool s] w fun e w'=>e=.returned (.int .i64 (aB c.added t s))∧fy w.heap.size w w':=by
 generalize hQ:(fun(e:Ending) (w':e_)=>e=.returned (.int .i64 (aB c.added t s))∧fy w.heap.size w w')=Q
 obtain⟨sec,id,name,ad,gn,oh,nh,rg,nr,oe,ne,oc,nc⟩:=c
 simp only at hQ
 have HQ:=h_ (fun(i:Int) (w':e_) (h:aB ad t s=i) (hb:fy w.heap.size w w')=>(show Q (.returned (.int .i64 i)) w' from hQ▸⟨by rw [h],hb⟩))
 generalize hcl:Chg.enc _=cl
 have hc3:cl.toArray[3]? =some (.bool ad):=by rw [←hcl];rfl
 clear hcl hQ
 obtain⟨cs,hcs⟩:∃ cs,cs=cl.toArray:=⟨_,rfl⟩
 rw [←hcs] at hc3 ⊢
 clear hcs
 have f3:=aa w cs 54 3 _ hc3
 have HB:=h_ (fun(w1:e_) (h:fy (w.heap.size+1) (w.alloc (.cells cs 54)) w1)=>aq h)
 have hb0:fy (w.heap.size+1) (w.alloc (.cells cs 54)) (w.alloc (.cells cs 54)):=fB _ _
 generalize hW0:w.alloc (.cells cs 54)=W0 at *
 have HW0:=h_ hW0
 clear hW0 hc3
 cases ad<;>cases t<;>cases s
 all_goals
  go_enter Tryz.func114,Tryz.ntmps114
  go_upto_region 1 with fail
  rw [HW0.out]
  go_wp2_with fail
  exact HQ.out _ _ (by rfl) (HB.out _ hb0)
theorem zdR (d d':Doc)(w:e_)(hd:d.lies w)(hd':d'.lies w)(hc:d.c=d'.c)(hf:∀ x∈d.evs,x.rows.length≤4000000∧∀ r∈x.rows,r.runs.length≤4000000)(hl1:d.rG.length≤4000000)(hl2:d.evs.length≤4000000)(hl3:d.cms.length≤4000000) :
 Calls fz 16 #[.agg d.enc.toArray,.agg d'.enc.toArray] w fun e w'=>e=.returned (.bool true)∧fy w.heap.size w w':=by
 generalize hQ:(fun(e:Ending) (w':e_)=>e=.returned (.bool true)∧fy w.heap.size w w')=Q
 have HQ:=h_ (fun w' (hb:fy w.heap.size w w')=>show Q (.returned (.bool true)) w' from hQ▸⟨rfl,hb⟩)
 clear hQ
 have HHA:=h_ (fun(w1:e_)=>zbm d w1)
 have HHB:=h_ (fun(w1:e_)=>zbm d' w1)
 have hh:d'.hd=d.hd:=(congrArg DocC.hd hc).symm
 rw [hh] at HHB
 have r0:=fun wx=>zdw d.hd d.hd wx
 simp only [zho,Bool.not_true] at r0
 obtain⟨title,lA,rate,drop,last,ra,rc,rG,ea,ec,evs,ca,cc,cms⟩:=d
 obtain⟨title',lang',rate',drop',last',ra',rc',regs',ea',ec',evs',ca',cc',cms'⟩:=d'
 simp only [Doc.c,Doc.hd,DocC.mk.injEq,Hd.mk.injEq] at hc
 obtain⟨⟨rfl,rfl,rfl,rfl,rfl⟩,rfl,he,rfl⟩:=hc
 have hel:evs'.length=evs.length:=(zaV he).symm
 have HEL:=h_ hel
 have HR1:=h_ (fun(w1:e_) (h:fy w.heap.size w w1)=>Regs.later hd.1 h)
 have HR2:=h_ (fun(w1:e_) (h:fy w.heap.size w w1)=>Regs.later hd'.1 h)
 have HE1:=h_ (fun(w1:e_) (h:fy w.heap.size w w1)=>bK.later hd.2.1 h)
 have HE2:=h_ (fun(w1:e_) (h:fy w.heap.size w w1)=>bK.later hd'.2.1 h)
 have HM1:=h_ (fun(w1:e_) (h:fy w.heap.size w w1)=>zey.later hd.2.2 h)
 have HM2:=h_ (fun(w1:e_) (h:fy w.heap.size w w1)=>zey.later hd'.2.2 h)
 have HAT:=h_ (fun(k:Nat)=>at_like he k)
 have HF:=h_ hf
 clear hd hd' he hh hf
 simp only [Doc.enc,Doc.hd,Hd.enc] at *
 simp only [hel] at HHB ⊢
 clear hel
 generalize hds:#[fH title,.string lA,.int .u8 rate,.bool drop,.int .i64 last,.slice ra rG.length rc,.slice ea evs.length ec,.slice ca cms.length cc]=ds at *
 generalize hqs:#[fH title,.string lA,.int .u8 rate,.bool drop,.int .i64 last,.slice ra' rG.length rc',.slice ea' evs.length ec',.slice ca' cms.length cc']=qs at *
 have HB:=h_ (fun(w1:e_) (h:fy (w.heap.size+2) ((w.alloc (.cells ds 27)).alloc (.cells qs 27)) w1)=>aR h)
 have f0:=ah w ds qs 27 27 0 (.string title) (by rw [←hds];rfl)
 have f1:=ah w ds qs 27 27 1 (.string lA) (by rw [←hds];rfl)
 have f2:=ah w ds qs 27 27 2 (.int .u8 rate) (by rw [←hds];rfl)
 have f3:=ah w ds qs 27 27 3 (.bool drop) (by rw [←hds];rfl)
 have f4:=ah w ds qs 27 27 4 (.int .i64 last) (by rw [←hds];rfl)
 have f5:=ah w ds qs 27 27 5 (.slice ra rG.length rc) (by rw [←hds];rfl)
 have f6:=ah w ds qs 27 27 6 (.slice ea evs.length ec) (by rw [←hds];rfl)
 have f7:=ah w ds qs 27 27 7 (.slice ca cms.length cc) (by rw [←hds];rfl)
 have g0:=aj w ds qs 27 27 0 (.string title) (by rw [←hqs];rfl)
 have g1:=aj w ds qs 27 27 1 (.string lA) (by rw [←hqs];rfl)
 have g2:=aj w ds qs 27 27 2 (.int .u8 rate) (by rw [←hqs];rfl)
 have g3:=aj w ds qs 27 27 3 (.bool drop) (by rw [←hqs];rfl)
 have g4:=aj w ds qs 27 27 4 (.int .i64 last) (by rw [←hqs];rfl)
 have g5:=aj w ds qs 27 27 5 (.slice ra' rG.length rc') (by rw [←hqs];rfl)
 have g6:=aj w ds qs 27 27 6 (.slice ea' evs.length ec') (by rw [←hqs];rfl)
 have g7:=aj w ds qs 27 27 7 (.slice ca' cms.length cc') (by rw [←hqs];rfl)
 have hb0:fy (w.heap.size+2) ((w.alloc (.cells ds 27)).alloc (.cells qs 27)) ((w.alloc (.cells ds 27)).alloc (.cells qs 27)):=fB _ _
 have hsz:((w.alloc (.cells ds 27)).alloc (.cells qs 27)).heap.size=w.heap.size+2:=by simp
 generalize hW0:(w.alloc (.cells ds 27)).alloc (.cells qs 27)=W0 at *
 have HW0:=h_ hW0
 have HSZ:=h_ hsz
 have HT0:=h_ (fun(w2 w3:e_) (h:fy (w.heap.size+2) W0 w2) (h3:fy w2.heap.size w2 w3)=>(h.trans (h3.mono (by have:=h.size;rw [HSZ.out] at this;exact this)):fy (w.heap.size+2) W0 w3))
 clear hW0 hsz
 go_enter Tryz.func16,Tryz.ntmps16
 subst hds
 subst hqs
 go_upto_region 1 with fail
 rw [HW0.out]
 have hbd:fy (w.heap.size+2) W0 W0.drew:=hb0.drew
 go_region_held3 (fun w'=>fy (w.heap.size+2) W0 w') (repeat (first|with_reducible assumption|with_reducible exact hbd)) (first
  | (go_at_call 45;(first|(with_reducible refine(HHA.out _).mono ?_)|(with_reducible refine(HHB.out _).mono ?_));rintro e w3 ⟨rfl,hb3⟩;first|(have hc3:=HT0.out _ _ hc3 hb3)|(have hc3:=HT0.out _ _ hbd hb3)))
 clear HHA HHB hb0 hbd r0
 go_wp2_with fail
 go_loopw [43] (fun i wr=>∃ k:Nat,k≤rG.length∧i=.int .i64 k∧fy (w.heap.size+2) W0 wr) (fun i _=>rG.length-(intOf i).toNat)
 case atStart=>exact⟨0,by omega,rfl,hc3⟩
 case round =>
  obtain⟨k,hk,rfl,hb⟩:=hrel
  by_cases hlt:k<rG.length
  · obtain⟨b0,off,x,rfl,hbl,hxk,hcx,_⟩:=(HR1.out _ (HB.out _ hb)).at_ hlt
    obtain⟨b1,off',y,rfl,hbl',hyk,hcy,_⟩:=(HR2.out _ (HB.out _ hb)).at_ hlt
    obtain rfl:x=y:=fJ (hxk.symm.trans hyk)
    have r1:=fun wx=>zdL x x wx
    simp only [zfj,Bool.not_true] at r1
    have d0:=hcx 0 _ rfl;have d1:=hcx 1 _ rfl;have d2:=hcx 2 _ rfl;have d3:=hcx 3 _ rfl;have d4:=hcx 4 _ rfl;have d5:=hcx 5 _ rfl;have d6:=hcx 6 _ rfl;have e0:=hcy 0 _ rfl;have e1:=hcy 1 _ rfl;have e2:=hcy 2 _ rfl;have e3:=hcy 3 _ rfl;have e4:=hcy 4 _ rfl;have e5:=hcy 5 _ rfl;have e6:=hcy 6 _ rfl
    obtain⟨nm,top,height,left,width,align,bottom⟩:=x
    simp only [Reg.enc,fm] at r1 d0 e0 d1 e1 d2 e2 d3 e3 d4 e4 d5 e5 d6 e6
    have HBN:=h_ (fun n=>fh hb n)
    clear hcx hcy hxk hyk
    go_wp2_with fail
    go_quiet (fail)
    go_wp2_with fail
    go_roundw
    case rel=>exact⟨k+1,by omega,by go_num,HBN.out _⟩
    all_goals first|(simp [intOf];done)|(simp [intOf];omega)
  · obtain rfl:k=rG.length:=by omega
    have hcr:=hb
    clear hb hlt HR1 HR2
    go_wp2_with fail
    go_loopw [61] (fun i wr=>∃ k:Nat,k≤evs.length∧i=.int .i64 k∧fy (w.heap.size+2) W0 wr) (fun i _=>evs.length-(intOf i).toNat)
    case atStart=>exact⟨0,by omega,rfl,hcr⟩
    case round =>
     obtain⟨k,hk,rfl,hb⟩:=hrel
     by_cases hlt:k<evs.length
     · obtain⟨b0,off,x,rfl,hbl,hxk,hcx,hxl⟩:=(HE1.out _ (HB.out _ hb)).at_ hlt
       obtain⟨b1,off',y,rfl,hbl',hyk,hcy,hyl⟩:=(HE2.out _ (HB.out _ hb)).at_ (show k<evs'.length by rw [HEL.out];exact hlt)
       have hxy:x.c=y.c:=by
        rcases HAT.out k with⟨h1,_⟩|⟨x',y',h1,h2,h3⟩
        · rw [hxk] at h1;cases h1
        · obtain rfl:=fJ (hxk.symm.trans h1)
          obtain rfl:=fJ (hyk.symm.trans h2)
          exact h3
       have hfx:=HF.out x (fq hxk)
       have HES:=h_ (fun(w1:e_) (h:fy wr.heap.size wr w1)=>(show Calls fz 50 #[.agg x.enc.toArray,.agg y.enc.toArray] w1 (fun e w'=>e=.returned (.bool true)∧fy wr.heap.size wr w') from by
        have:=zaC x y w1 (Ev.keeps _ _ _ h hxl) (Ev.keeps _ _ _ h hyl) hfx.2 hfx.1
        rw [zks _ _ hxy] at this
        exact this.mono fun e w' p=>⟨p.1,h.trans (p.2.mono h.size)⟩))
       have hcx':∀ (w1:e_),fy wr.heap.size wr w1→∀ (j:Nat) (u:fb),x.enc[j]? =some u→w1.cell? ⟨b0,off+k*7+j,none⟩=some u:=fun w1 h j u e=>(h.cell (p:=⟨b0,off+k*7+j,none⟩) hbl).trans (hcx j u e)
       have hcy':∀ (w1:e_),fy wr.heap.size wr w1→∀ (j:Nat) (u:fb),y.enc[j]? =some u→w1.cell? ⟨b1,off'+k*7+j,none⟩=some u:=fun w1 h j u e=>(h.cell (p:=⟨b1,off'+k*7+j,none⟩) hbl').trans (hcy j u e)
       have d0:=fun w1 h=>hcx' w1 h 0 _ rfl;have d1:=fun w1 h=>hcx' w1 h 1 _ rfl;have d2:=fun w1 h=>hcx' w1 h 2 _ rfl;have d3:=fun w1 h=>hcx' w1 h 3 _ rfl;have d4:=fun w1 h=>hcx' w1 h 4 _ rfl;have d5:=fun w1 h=>hcx' w1 h 5 _ rfl;have d6:=fun w1 h=>hcx' w1 h 6 _ rfl
       have e0:=fun w1 h=>hcy' w1 h 0 _ rfl;have e1:=fun w1 h=>hcy' w1 h 1 _ rfl;have e2:=fun w1 h=>hcy' w1 h 2 _ rfl;have e3:=fun w1 h=>hcy' w1 h 3 _ rfl;have e4:=fun w1 h=>hcy' w1 h 4 _ rfl;have e5:=fun w1 h=>hcy' w1 h 5 _ rfl;have e6:=fun w1 h=>hcy' w1 h 6 _ rfl
       obtain⟨xid,xin,xout,xreg,xkind,xsp,xa,xc,xrows⟩:=x
       obtain⟨yid,yin,yout,yreg,ykind,ysp,ya,yc,yrows⟩:=y
       simp only [Ev.enc,fm] at HES d0 e0
       have hk6:=fun(w1:e_) (h:fy wr.heap.size wr w1)=>f6 w1 (HT0.out _ _ hb h)
       have hg6:=fun(w1:e_) (h:fy wr.heap.size wr w1)=>g6 w1 (HT0.out _ _ hb h)
       have hwd:fy wr.heap.size wr wr.drew:=(fB _ _).drew
       have HBR:=h_ hb
       clear hcx hcy hcx' hcy' hxk hyk hxl hyl hxy hfx hb
       go_upto_region 12 with fail
       go_region_held3 (fun w'=>fy wr.heap.size wr w') (first|with_reducible assumption|with_reducible exact hwd) (first|(go_at_call 50;((with_reducible refine(HES.out _ ?_).mono ?_);with_reducible assumption);rintro e w4 ⟨rfl,hb4⟩))
       all_goals
        have HB4:=h_ (HT0.out _ _ HBR.out hb4)
        clear hb4 HES
        go_wp2_with fail
        go_roundw
        case rel=>exact⟨k+1,by omega,by go_num,HB4.out⟩
        all_goals first|(simp [intOf];done)|(simp [intOf];omega)
     · obtain rfl:k=evs.length:=by omega
       have hcm:=hb
       clear hb hlt HE1 HE2
       go_wp2_with fail
       go_loopw [80] (fun i wr=>∃ k:Nat,k≤cms.length∧i=.int .i64 k∧fy (w.heap.size+2) W0 wr) (fun i _=>cms.length-(intOf i).toNat)
       case atStart=>exact⟨0,by omega,rfl,hcm⟩
       case round =>
        obtain⟨k,hk,rfl,hb⟩:=hrel
        by_cases hlt:k<cms.length
        · obtain⟨b0,off,x,rfl,hbl,hxk,hcx,_⟩:=(HM1.out _ (HB.out _ hb)).at_ hlt
          obtain⟨b1,off',y,rfl,hbl',hyk,hcy,_⟩:=(HM2.out _ (HB.out _ hb)).at_ hlt
          obtain rfl:x=y:=fJ (hxk.symm.trans hyk)
          have r1:=fun wx=>zfN x x wx
          simp only [zhB,Bool.not_true] at r1
          have d0:=hcx 0 _ rfl;have d1:=hcx 1 _ rfl;have d2:=hcx 2 _ rfl;have d3:=hcx 3 _ rfl;have d4:=hcx 4 _ rfl;have d5:=hcx 5 _ rfl;have d6:=hcx 6 _ rfl;have d7:=hcx 7 _ rfl;have e0:=hcy 0 _ rfl;have e1:=hcy 1 _ rfl;have e2:=hcy 2 _ rfl;have e3:=hcy 3 _ rfl;have e4:=hcy 4 _ rfl;have e5:=hcy 5 _ rfl;have e6:=hcy 6 _ rfl;have e7:=hcy 7 _ rfl
          obtain⟨eid,eev,efrm,etil,eau,etx,edn,elo⟩:=x
          simp only [Cm.enc,fm] at r1 d0 e0 d1 e1 d2 e2 d3 e3 d4 e4 d5 e5 d6 e6 d7 e7
          have HBN:=h_ (fun n=>fh hb n)
          clear hcx hcy hxk hyk
          go_wp2_with fail
          go_quiet (fail)
          go_wp2_with fail
          go_roundw
          case rel=>exact⟨k+1,by omega,by go_num,HBN.out _⟩
          all_goals first|(simp [intOf];done)|(simp [intOf];omega)
        · obtain rfl:k=cms.length:=by omega
          go_wp2_with fail
          exact HQ.out _ (HB.out _ hb)
end Go.Proofs.YtnlnmbcaongehaaGreatDoor
