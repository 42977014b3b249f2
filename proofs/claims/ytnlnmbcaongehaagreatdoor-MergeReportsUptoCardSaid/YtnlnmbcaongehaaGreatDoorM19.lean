/- merge.named: the region with a name, or none. (printed by gen_mgnamed.py) slices.Concat of three lists of regions, and merge.regions. (printed by gen_mgregs.py) -/
import Derived.Test.YtnlnmbcaongehaaGreatDoorM15
import Derived.Test.YtnlnmbcaongehaaGreatDoorM17
set_option linter.unusedVariables false
set_option linter.unusedSimpArgs false
set_option maxRecDepth 100000
set_option maxHeartbeats 12800000
open Go.Lib renaming hid→h_
open Go renaming World→fm,rounds_succ→fp,cell_of_row→ft,heap_alloc_last→fu,Value→fw,info_parts→fB
open Go.RowKit renaming Below→fC
open Go.RowKit.Below renaming refl→fD,setCell→fE
open Go.World renaming frozen?→fF,cell?_alloc_lt→fG,size_alloc→fH
open Nat renaming le_trans→fI,le_refl→fJ,add_zero→fK
open Go.Lib renaming compact→fL
open Go.Value renaming string→fM
open List renaming length_append→fN,length_map→fO,flatMap_append→fP,take_add_one→fQ,flatMap_cons→fR,append_assoc→fS,append_nil→fT
namespace Go.Proofs.YtnlnmbcaongehaaGreatDoor
open Go.RowKit
def zaB:Option Reg→Reg × Bool
 | some r=>(r,true)
 | none=>(bB,false)
theorem zjy (x y:Option Reg):ziz x y=may8 (zaB x) (zaB y):=by
 cases x<;>cases y<;>simp [zaB,ziz,may8,zdP]
theorem zhh (xs:List Reg)(n:ByteArray)(k:Nat)(x:Reg)(h:xs[k]? =some x):aQ (xs.drop k) n=if (x.name.toList==n.toList)=true then some x else aQ (xs.drop (k+1)) n:=by
 rw [aZ xs k x h]
 unfold aQ
 rw [List.find?_cons]
 show(match zaK n x with|true=>some x|false=>_)=_
 unfold zaK
 cases (x.name.toList==n.toList)<;>rfl
theorem zaw (a:Option Addr)(cap:Nat)(xs:List Reg)(nk:ByteArray)(w:fm)(h:Regs w a xs)(hl:xs.length≤8000000) :
 Calls Tryz.prog 134 #[.slice a xs.length cap,.string nk] w fun e w'=>e=.returned (.agg (aF (zaB (aQ xs nk))))∧fC w.heap.size w w':=by
 generalize hG:aQ xs nk=G
 have H0:=h_ (show aQ (xs.drop 0) nk=G from hG)
 have HSL:=h_ (fun(w':fm) (hb:fC w.heap.size w w')=>h.later hb)
 generalize hQ:(fun(e:Ending) (w':fm)=>e=.returned (.agg (aF (zaB G)))∧fC w.heap.size w w')=Q
 have HQ:=h_ (fun(w':fm) (v:Array fw) (h:aF (zaB G)=v) (hb:fC w.heap.size w w')=>(show Q (.returned (.agg v)) w' from hQ▸⟨by rw [h],hb⟩))
 clear hQ
 have HFR:=h_ (fun(k:Nat) (x:Reg) (hx:xs[k]? =some x)=>zhh xs nk k x hx)
 obtain⟨zc,hzc⟩:∃ zc:Array fw,zc=#[.string ⟨#[]⟩,.int .i64 0,.int .i64 0,.int .i64 0,.int .i64 0,.int .u8 0,.bool false,.bool false]:=⟨_,rfl⟩
 have HB0:=h_ (fun(w1:fm) (hb:fC (w.heap.size+1) (w.alloc (.cells zc 198)) w1)=>(show fC w.heap.size w w1 from aH hb))
 have HZ:=h_ (fun(w1:fm) (hb:fC (w.heap.size+1) (w.alloc (.cells zc 198)) w1)=>(show w1.heap[w.heap.size]? =some (.cells zc 198 (0,0)) by
  rw [hb.block _ (by omega)]
  exact fu w _))
 have hb00:fC (w.heap.size+1) (w.alloc (.cells zc 198)) (w.alloc (.cells zc 198)):=fD _ _
 have hsz:(w.alloc (.cells zc 198)).heap.size=w.heap.size+1:=fH _ _
 rw [hzc] at HB0 hb00 hsz HZ
 generalize hW0:w.alloc (.cells #[.string ⟨#[]⟩,.int .i64 0,.int .i64 0,.int .i64 0,.int .i64 0,.int .u8 0,.bool false,.bool false] 198)=W0 at *
 have HW0:=h_ hW0
 have HSZ:=h_ hsz
 clear hW0 hsz hG h hzc zc
 go_enter Tryz.func134,Tryz.ntmps134
 go_wp2_with fail
 rw [HW0.out]
 go_loopw [9] (fun i wr=>∃ k:Nat,k≤xs.length∧i=.int .i64 k∧aQ (xs.drop k) nk=G∧fC (w.heap.size+1) W0 wr) (fun i _=>xs.length-(intOf i).toNat)
 case atStart=>exact⟨0,by omega,rfl,H0.out,hb00⟩
 case round =>
  obtain⟨k,hk,rfl,hp,hb⟩:=hrel
  have hbs:w.heap.size+1≤wr.heap.size:=by have:=hb.size;rw [HSZ.out] at this;exact this
  by_cases hlt:k<xs.length
  · obtain⟨b,off,x,rfl,hbl,hxk,hc,_⟩:=(HSL.out _ (HB0.out _ hb)).at_ hlt
    rw [HFR.out k x hxk] at hp
    have HBA:=h_ (fun(o:Obj)=>(show fC (w.heap.size+1) W0 (wr.alloc o) from hb.alloc hbs _))
    have hz2:=fun o=>HZ.out _ (HBA.out o)
    have d0:=hc 0 _ rfl;have d1:=hc 1 _ rfl;have d2:=hc 2 _ rfl;have d3:=hc 3 _ rfl;have d4:=hc 4 _ rfl;have d5:=hc 5 _ rfl;have d6:=hc 6 _ rfl
    obtain⟨nm,top,height,left,width,align,bottom⟩:=x
    simp only [Reg.enc,fK] at d0 d1 d2 d3 d4 d5 d6 hp
    have c2:∀ o j,(wr.alloc o).cell? ⟨w.heap.size,j,none⟩=_:=fun o j=>ft _ _ j _ 198 (0,0) (hz2 o)
    have z2:∀ o j,(wr.alloc o).frozen? ⟨w.heap.size,j,none⟩=false:=fun o j=>by simp [fF,hz2 o]
    have hne:w.heap.size≠wr.heap.size:=by omega
    clear hc hxk hz2
    cases hkq:(nm.toList==nk.toList)
    · rw [if_neg (by rw [hkq];decide)] at hp
      have HP:=h_ hp
      clear hp H0 c2 z2
      go_wp2_with fail
      go_roundw
      case rel=>exact⟨k+1,by omega,by go_num,HP.out,HBA.out _⟩
      case measure=>simp [intOf];omega
    · rw [if_pos hkq] at hp
      have HP:=h_ hp
      clear hp H0
      go_wp2_with fail
      refine bodyPost_ret (v:=.agg #[.string nm,.int .i64 top,.int .i64 height,.int .i64 left,.int .i64 width,.int .u8 align,.bool bottom,.bool true]) (by simp [results,Tryz.results134,go_sem,c2]) rfl ?_
      refine HQ.out _ _ (by rw [←HP.out];rfl) ?_
      repeat refine fE ?_ (by simp only;omega) _
      exact HB0.out _ (HBA.out _)
  · obtain rfl:k=xs.length:=by omega
    rw [List.drop_length] at hp
    have hp':none=G:=hp
    have HP:=h_ hp'
    have hz2:=HZ.out _ hb
    have HB1:=h_ hb
    have c2:∀ (j:Nat),wr.cell? ⟨w.heap.size,j,none⟩=_:=fun j=>ft _ _ j _ 198 (0,0) hz2
    have z2:∀ (j:Nat),wr.frozen? ⟨w.heap.size,j,none⟩=false:=fun j=>by simp [fF,hz2]
    clear hp hp' hz2 H0 hb
    go_wp2_with fail
    refine bodyPost_ret (v:=.agg #[.string ⟨#[]⟩,.int .i64 0,.int .i64 0,.int .i64 0,.int .i64 0,.int .u8 0,.bool false,.bool false]) (by simp [results,Tryz.results134,go_sem,c2]) rfl ?_
    refine HQ.out _ _ (by rw [←HP.out];rfl) ?_
    repeat refine fE ?_ (by simp only;omega) _
    exact HB0.out _ HB1.out
theorem zeF {Ok:fm→Reg→Prop} (hK:Keeps Ok)(g c1 c2 c3:Nat)(a1 a2 a3:Option Addr)(xs ys zs:List Reg)(w:fm)(d0:w.cell? ⟨g,0,none⟩=some (.slice a1 xs.length c1))(d1:w.cell? ⟨g,1,none⟩=some (.slice a2 ys.length c2))(d2:w.cell? ⟨g,2,none⟩=some (.slice a3 zs.length c3))(hg:g<w.heap.size)
 (h1:af 7 Reg.enc Ok w a1 xs) (h2:af 7 Reg.enc Ok w a2 ys) (h3:af 7 Reg.enc Ok w a3 zs) (hx:xs.length≤2000000) (hy:ys.length≤2000000) (hz:zs.length≤2000000) :
 Calls Tryz.prog 90 #[.slice (some ⟨g,0,none⟩) 3 3] w (aB 44 7 Reg.enc (xs++ys++zs) w):=by
 have HG:=h_ (zhB (xs.length+ys.length+zs.length) w (by omega))
 have H1:=h_ (fun(w':fm) (hb:fC w.heap.size w w')=>af.keeps hK _ _ _ _ hb h1)
 have H2:=h_ (fun(w':fm) (hb:fC w.heap.size w w')=>af.keeps hK _ _ _ _ hb h2)
 have H3:=h_ (fun(w':fm) (hb:fC w.heap.size w w')=>af.keeps hK _ _ _ _ hb h3)
 have HQ:=h_ (fun(v:fw) (w':fm) (ho:w'.ownsRow w.heap.size 44 7 v (xs.length+ys.length+zs.length) (xs.flatMap Reg.enc++ys.flatMap Reg.enc++zs.flatMap Reg.enc)) (hb:fC w.heap.size w w')=>(show aB 44 7 Reg.enc (xs++ys++zs) w (.returned v) w' from⟨v,rfl,by simpa [Nat.add_assoc] using ho,hb⟩))
 obtain⟨j0,hj,hy0,hy1,hy2⟩:=fB Tryz.info44
 have JI:=h_ hj;have J0:=h_ hy0;have J1:=h_ hy1;have J2:=h_ hy2
 have hp:¬ ((xs.length:Int)<0):=by omega
 have hp2:¬ ((xs.length:Int)+(ys.length:Int)<0):=by omega
 have hp3:¬ ((xs.length:Int)+(ys.length:Int)+(zs.length:Int)<0):=by omega
 generalize aB 44 7 Reg.enc (xs++ys++zs) w=Q at *
 clear hj hy0 hy1 hy2 h1 h2 h3
 go_enter Tryz.func90,Tryz.ntmps90
 go_wp2_with fail
 refine wp_loop_rounds 4 ?_
 rw [fp]
 go_wp2_with fail
 rw [fp]
 go_wp2_with fail
 rw [fp]
 go_wp2_with fail
 rw [fp]
 go_wp2_with fail
 rw [show((xs.length:Int)+(ys.length:Int)+(zs.length:Int))=((xs.length+ys.length+zs.length:Nat):Int) by omega]
 refine HG.out.mono ?_
 rintro e w1 ⟨v,rfl,ho1,hb1⟩
 have e0:w1.cell? ⟨g,0,none⟩=some (.slice a1 xs.length c1):=(hb1.cell (p:=⟨g,0,none⟩) hg).trans d0
 have e1:w1.cell? ⟨g,1,none⟩=some (.slice a2 ys.length c2):=(hb1.cell (p:=⟨g,1,none⟩) hg).trans d1
 have e2:w1.cell? ⟨g,2,none⟩=some (.slice a3 zs.length c3):=(hb1.cell (p:=⟨g,2,none⟩) hg).trans d2
 have HO1:=h_ ho1
 have HB1:=h_ hb1
 have hs1:=hb1.size
 clear ho1 hb1 d0 d1 d2 HG
 go_wp2_with fail
 refine wp_loop_rounds 4 ?_
 rw [fp]
 go_wp2_with (at_builtin;refine aw (enc:=Reg.enc) (Ok:=Ok) _ rfl (.tmp 31) (.tmp 32) 23 rfl w.heap.size 44 j0 _ 7 56 Tryz.underlying23 JI.out J0.out J1.out J2.out rfl (by decide) (fun _=>rfl) Reg.one _ 0 [] rfl HO1.out a1 c1 xs rfl (H1.out _ HB1.out) ?h63 ?hb ?hbase ?_)
 case h63=>unfold maxLen;omega
 case hb=>omega
 case hbase=>exact hs1
 intro v2 w2 ho2 hg2 _
 have hb2:fC w.heap.size w w2:=HB1.out.grown hg2 hs1 (fun j hj=>(HO1.out.lt j hj).1)
 have f1:w2.cell? ⟨g,1,none⟩=some (.slice a2 ys.length c2):=hg2.cell e1 (fun e=>absurd (HO1.out.lt g e.symm).1 (by omega))
 have f2:w2.cell? ⟨g,2,none⟩=some (.slice a3 zs.length c3):=hg2.cell e2 (fun e=>absurd (HO1.out.lt g e.symm).1 (by omega))
 have HO2:=h_ ho2
 have HB2:=h_ hb2
 have hs2:=hb2.size
 clear ho2 hb2 hg2 e0 e1 e2
 go_wp2_with fail
 rw [fp]
 go_wp2_with (at_builtin;refine aw (enc:=Reg.enc) (Ok:=Ok) _ rfl (.tmp 31) (.tmp 32) 23 rfl w.heap.size 44 j0 _ 7 56 Tryz.underlying23 JI.out J0.out J1.out J2.out rfl (by decide) (fun _=>rfl) Reg.one _ _ _ rfl HO2.out a2 c2 ys rfl (H2.out _ HB2.out) ?h63 ?hb ?hbase ?_)
 case h63=>unfold maxLen;omega
 case hb=>omega
 case hbase=>exact hs2
 intro v3 w3 ho3 hg3 _
 have hb3:fC w.heap.size w w3:=HB2.out.grown hg3 hs2 (fun j hj=>(HO2.out.lt j hj).1)
 have g2:w3.cell? ⟨g,2,none⟩=some (.slice a3 zs.length c3):=hg3.cell f2 (fun e=>absurd (HO2.out.lt g e.symm).1 (by omega))
 have HO3:=h_ ho3
 have HB3:=h_ hb3
 have hs3:=hb3.size
 clear ho3 hb3 hg3 f1 f2
 go_wp2_with fail
 rw [fp]
 go_wp2_with (at_builtin;refine aw (enc:=Reg.enc) (Ok:=Ok) _ rfl (.tmp 31) (.tmp 32) 23 rfl w.heap.size 44 j0 _ 7 56 Tryz.underlying23 JI.out J0.out J1.out J2.out rfl (by decide) (fun _=>rfl) Reg.one _ _ _ rfl HO3.out a3 c3 zs rfl (H3.out _ HB3.out) ?h63 ?hb ?hbase ?_)
 case h63=>unfold maxLen;omega
 case hb=>omega
 case hbase=>exact hs3
 intro v4 w4 ho4 hg4 _
 have hb4:fC w.heap.size w w4:=HB3.out.grown hg4 hs3 (fun j hj=>(HO3.out.lt j hj).1)
 have HO4:=h_ ho4
 have HB4:=h_ hb4
 clear ho4 hb4 hg4 g2
 go_wp2_with fail
 rw [fp]
 go_wp2_with fail
 exact HQ.out v4 _ (by simpa using HO4.out) HB4.out
theorem zit (x y z:List Reg):aR x y z=(fL (eG ((x++y++z).map (fun r:Reg=>r.name.data.toList)))).map (fun l=>⟨l.toArray⟩):=by
 have:=zfS ⟨⟨#[]⟩,⟨#[]⟩,0,false,0,none,0,x++y,none,0,[],none,0,[]⟩ ⟨⟨#[]⟩,⟨#[]⟩,0,false,0,none,0,z,none,0,[],none,0,[]⟩
 exact this
theorem zis (ls:List (List UInt8)):ls.map encStr=(ls.map fun l=>(⟨l.toArray⟩:ByteArray)).map fM:=by
 rw [List.map_map]
 exact List.map_congr_left fun l _=>by simp [encStr]
def zhi (n:ByteArray):Cl:=⟨2,0,n,az⟩
theorem zfX (x y z:List Reg)(ns:List ByteArray)(k:Nat)(n:ByteArray)(h:ns[k]? =some n):bY x y z (ns.take (k+1))=bY x y z (ns.take k)++(zbo x y z n).1.toList:=by
 unfold bY
 rw [fQ,h,fP]
 simp
theorem zff (x y z:List Reg)(ns:List ByteArray)(k:Nat)(n:ByteArray)(h:ns[k]? =some n):bD x y z (ns.take (k+1))=bD x y z (ns.take k)++clIf (zbo x y z n).2 (zhi n):=by
 unfold bD
 rw [fQ,h,fP]
 simp [zhi]
theorem zh3 {α:Type} (o:Option α):o.toList.length≤1:=by cases o<;>simp
theorem zfe (x y z:List Reg):∀ ns:List ByteArray,(bY x y z ns).length≤ns.length∧(bD x y z ns).length≤ns.length
 | []=>by simp [bY,bD]
 | n::l=>by
   have ih:=zfe x y z l
   have h1:=zh3 (zbo x y z n).1
   have h2:(clIf (zbo x y z n).2 (⟨2,0,n,az⟩:Cl)).length≤1:=by cases (zbo x y z n).2<;>simp [clIf]
   unfold bY bD at *
   rw [fR,fR,fN,fN,List.length_cons]
   omega
def zjS (x y z:List Reg)(m:Mg)(B g:Nat)(ns:List ByteArray)(w:fm)(k:Nat)(wr:fm):Prop :=
 ∃ rv kv,({ m with rv:=rv,rG:=bY x y z (ns.take k),kv:=kv,cls:=m.cls++bD x y z (ns.take k) }:Mg).at_ B g wr∧Mg.step g m { m with rv:=rv,rG:=bY x y z (ns.take k),kv:=kv,cls:=m.cls++bD x y z (ns.take k) } w wr
def zja (x y z:List Reg)(m:Mg)(B g:Nat)(w:fm)(e:Ending)(w':fm):Prop:=e=.returned (.tuple #[])∧∃ rv kv,({ m with rv:=rv,rG:=bY x y z (aR x y z),kv:=kv,cls:=m.cls++bD x y z (aR x y z) }:Mg).at_ B g w'∧Mg.step g m { m with rv:=rv,rG:=bY x y z (aR x y z),kv:=kv,cls:=m.cls++bD x y z (aR x y z) } w w'
theorem zei (m:Mg)(B g:Nat)(a1 a2 a3:Option Addr)(c1 c2 c3:Nat)(x y z:List Reg)(w:fm)(h:m.at_ B g w)(hB:B≤w.heap.size)(hm:m.rG=[])(hcl:m.cls.length≤1000)
 (hx:Regs w a1 x) (hy:Regs w a2 y) (hz:Regs w a3 z) (ux:∀ b,zb0 a1 x b→b<g) (uy:∀ b,zb0 a2 y b→b<g) (uz:∀ b,zb0 a3 z b→b<g) (lx:x.length≤1000) (ly:y.length≤1000) (lz:z.length≤1000) :
 Calls Tryz.prog 78 #[.pointer (some ⟨g,0,none⟩),.slice a1 x.length c1,.slice a2 y.length c2,.slice a3 z.length c3] w (zja x y z m B g w):=by
 have hgl:=h.glt
 have HC:=h_ (fun(o:Array fw) (ho:o=#[.slice a1 x.length c1,.slice a2 y.length c2,.slice a3 z.length c3])=>(show Calls Tryz.prog 90 #[.slice (some ⟨w.heap.size,0,none⟩) 3 3] (w.alloc (.cells o 23)) (aB 44 7 Reg.enc (x++y++z) (w.alloc (.cells o 23))) from by
  have hb:fC w.heap.size w (w.alloc (.cells o 23)):=(fD _ _).alloc (fJ _) _
  refine zeF Flat.keeps w.heap.size c1 c2 c3 a1 a2 a3 x y z (w.alloc (.cells o 23)) ?_ ?_ ?_ (by simp) (af.keeps Flat.keeps _ _ _ _ hb hx) (af.keeps Flat.keeps _ _ _ _ hb hy) (af.keeps Flat.keeps _ _ _ _ hb hz) (by omega) (by omega) (by omega)
  · rw [ft _ _ 0 o 23 (0,0) (fu w _),ho];rfl
  · rw [ft _ _ 1 o 23 (0,0) (fu w _),ho];rfl
  · rw [ft _ _ 2 o 23 (0,0) (fu w _),ho];rfl))
 obtain⟨zs,hzs⟩:∃ zs,zs=x++y++z:=⟨_,rfl⟩
 have hzl:zs.length≤3000:=by rw [hzs,fN,fN];omega
 rw [←hzs] at HC
 have hsl:(eG (zs.map (fun r:Reg=>r.name.data.toList))).length≤3000:=by unfold eG;rw [List.length_mergeSort,fO];exact hzl
 have hNS:=zit x y z
 rw [←hzs] at hNS
 have hnl:(aR x y z).length≤3000:=by
  have:=dA (x++y++z) []
  rw [←hzs] at this
  simp only [aR]
  rw [←hzs]
  simp at this
  omega
 have HFIN:=h_ (fun(W wr:fm) (v:fw) (h:dH 9 encStr (fun r:Reg=>r.name.data.toList) zs W zs.length v wr)=>zd8 W.heap.size v (zs.map (fun r:Reg=>r.name.data.toList)) wr h.all (by rw [fO];omega) h.2.size)
 have HCMP:=h_ (fun(b0:Nat) (wr:fm) (v:fw) (ho:wr.ownsRow b0 9 1 v (eG (zs.map (fun r:Reg=>r.name.data.toList))).length ((eG (zs.map (fun r:Reg=>r.name.data.toList))).map encStr))=>zb6 b0 v (eG (zs.map (fun r:Reg=>r.name.data.toList))) wr ho (by omega))
 have HNM:=h_ (show ∀ (b0:Nat) (v:fw) (w4:fm),w4.ownsRow b0 9 1 v (fL (eG (zs.map (fun r:Reg=>r.name.data.toList)))).length ((fL (eG (zs.map (fun r:Reg=>r.name.data.toList)))).map encStr)→w4.ownsRow b0 9 1 v (aR x y z).length ((aR x y z).map fM) from fun b0 v w4 ho=>by
  rw [hNS,fO,←zis]
  exact ho)
 obtain⟨j0,hj,hy0,hy1,hy2⟩:=fB Tryz.info9
 have JI:=h_ hj;have J0:=h_ hy0;have J1:=h_ hy1;have J2:=h_ hy2
 obtain⟨i0,hi,hi0,hi1,hi2⟩:=fB Tryz.info44
 have II:=h_ hi;have I0:=h_ hi0;have I1:=h_ hi1;have I2:=h_ hi2
 have HST:=h_ (fun(W w1 w2:fm) (k:Nat) (v v':fw) (r:Reg) (cs:Array fw) (hr:zs[k]? =some r)=>dH.step (K:=9) (enc:=encStr) (key:=(fun r:Reg=>r.name.data.toList)) (zs:=zs) (W:=W) (w1:=w1) (w2:=w2) (k:=k) (v:=v) (v':=v') (x:=r) (cs:=cs) hr)
 have HREL:Hid (∀ (W wr:fm) (k:Nat) (v:fw),dH 9 encStr (fun r:Reg=>r.name.data.toList) zs W k v wr→wr.ownsRow W.heap.size 9 1 v k (((zs.take k).map (fun r:Reg=>r.name.data.toList)).map encStr)∧fC W.heap.size W wr):=h_ (fun _ _ _ _ h=>h)
 have HS0:Hid (∀ W:fm,dH 9 encStr (fun r:Reg=>r.name.data.toList) zs W 0 (.slice none 0 0) W):=h_ (fun W=>⟨fm.ownsRow_nil _ _ _ _,fD _ _⟩)
 generalize dH 9 encStr (fun r:Reg=>r.name.data.toList) zs=R at *
 obtain⟨cells,hcells⟩:∃ cells:Nat→List fw,cells=fun k=>(((zs.take k).map (fun r:Reg=>r.name.data.toList)).map encStr):=⟨_,rfl⟩
 simp only [show ∀ k,(((zs.take k).map (fun r:Reg=>r.name.data.toList)).map encStr)=cells k from fun k=>by rw [hcells]] at HREL HST
 generalize eG (zs.map (fun r:Reg=>r.name.data.toList))=S at *
 generalize fL S=C at *
 have HQ:=h_ (show ∀ w4 w',fC w.heap.size w w4→zjS x y z m B g (aR x y z) w4 (aR x y z).length w'→zja x y z m B g w (.returned (.tuple #[])) w' from fun w4 w' hb hr=>by
  obtain⟨rv,kv,q1,q2⟩:=hr
  rw [List.take_length] at q1 q2
  exact⟨rfl,rv,kv,q1,(Mg.step.of_below hb).trans q2⟩)
 have HR0:=h_ (show ∀ w4,fC w.heap.size w w4→zjS x y z m B g (aR x y z) w4 0 w4 from fun w4 hb=>by
  have e1:bY x y z ((aR x y z).take 0)=[]:=rfl
  have e2:bD x y z ((aR x y z).take 0)=[]:=rfl
  refine⟨m.rv,m.kv,?_,?_⟩
  · rw [e1,e2,fT]
    have:=h.later hb
    rw [←hm]
    exact this
  · rw [e1,e2,fT,←hm]
    exact Mg.step.refl _ _ _)
 have HMINE:=h_ (fun b (hb:m.mine g b)=>h.mine_lt hb)
 have HLW:=h_ (fun w4 (hb:fC w.heap.size w w4)=>h.later hb)
 have HX:=h_ (fun w1 (hb:fC g w w1) (hs:w.heap.size≤w1.heap.size)=>zet hx ux hb hs)
 have HY:=h_ (fun w1 (hb:fC g w w1) (hs:w.heap.size≤w1.heap.size)=>zet hy uy hb hs)
 have HZ:=h_ (fun w1 (hb:fC g w w1) (hs:w.heap.size≤w1.heap.size)=>zet hz uz hb hs)
 generalize zja x y z m B g w=Q at *
 clear hj hy0 hy1 hy2 hi hi0 hi1 hi2 hx hy hz ux uy uz hzs hsl hcells hNS h
 go_enter Tryz.func78,Tryz.ntmps78
 go_wp2_with fail
 refine(HC.out _ rfl).mono ?_
 rintro e w1 ⟨v1,rfl,ho1,hb1⟩
 obtain⟨av,cv,rfl,hS⟩:=aj (k:=7) (enc:=Reg.enc) (Ok:=Flat) (fun _=>rfl) ho1 (fun _ _=>trivial)
 have HB1:=h_ (show fC w.heap.size w w1 from((fD _ _).alloc (fJ _) _).trans (hb1.mono (by simp)))
 have HSL:=h_ hS
 have hs1:=HB1.out.size
 clear ho1 hb1 hS HC
 go_wp2_with fail
 go_loopw [8,21] (fun v i wr=>∃ k:Nat,k≤zs.length∧i=.int .i64 k∧R w1 k v wr) (fun _ i _=>zs.length-(intOf i).toNat)
 case atStart=>exact⟨0,by omega,rfl,HS0.out _⟩
 case round =>
  obtain⟨k,hk,rfl,hrel⟩:=hrel
  have hrk:=HREL.out _ _ _ _ hrel
  by_cases hlt:k<zs.length
  · obtain⟨b,off,r,rfl,hbl,hxk,hc,_⟩:=(af.keeps Flat.keeps _ _ _ _ hrk.2 HSL.out).at_ hlt
    have hbs:=hrk.2.size
    have HO:=h_ (fun(o:Obj)=>aq hrk.1 ((fD wr.heap.size wr).alloc (fJ _) o))
    have HBB:=h_ (fun(o:Obj)=>(show fC w1.heap.size w1 (wr.alloc o) from hrk.2.alloc hrk.2.size o))
    have HS2:=h_ (fun(o:Obj) (w3:fm) (v':fw) (cs:Array fw)=>HST.out w1 (wr.alloc o) w3 k u8 v' r cs hxk)
    have d0:=hc 0 _ rfl;have d1:=hc 1 _ rfl;have d2:=hc 2 _ rfl;have d3:=hc 3 _ rfl;have d4:=hc 4 _ rfl;have d5:=hc 5 _ rfl;have d6:=hc 6 _ rfl
    obtain⟨nm,top,height,left,width,align,bottom⟩:=r
    simp only [Reg.enc,fK] at d0 d1 d2 d3 d4 d5 d6
    simp only [zgc] at HS2
    clear hc hxk hrel hrk
    go_wp2_with (at_builtin;refine aP _ _ rfl (.tmp 25) (.tmp 28) 55 rfl w1.heap.size 9 j0 _ 1 16 Tryz.underlying55 JI.out J0.out J1.out J2.out rfl (by decide) _ _ _ rfl (HO.out _) _ rfl (by simp) rfl ?h1 ?h63 ?hb ?hbase ?_)
    case h1=>first|rfl|(intro u hu;simp at hu;subst hu;rfl)
    case h63=>unfold maxLen;omega
    case hb=>omega
    case hbase=>simp;omega
    intro v' w3 hown' hgrow
    have RR:=h_ (HS2.out _ w3 v' _ (HBB.out _) (HO.out _) rfl hown' hgrow)
    clear hown' hgrow
    go_wp2_with fail
    go_roundw
    case rel=>exact⟨k+1,by omega,by go_num,RR.out⟩
    case measure=>simp [intOf];omega
  · obtain rfl:k=zs.length:=by omega
    obtain⟨av2,cv2,hav⟩:∃ a c,u8=.slice a zs.length c:=by
     rcases hrk.1.2 with⟨rfl,h0⟩|⟨g,cap,_,rfl,_⟩
     · exact⟨none,0,by rw [h0]⟩
     · exact⟨_,_,rfl⟩
    subst hav
    have HF1:=h_ (HFIN.out _ _ _ hrel)
    have HRB:=h_ hrk.2
    clear hrel hrk
    go_wp2_with fail
    refine HF1.out.mono ?_
    rintro e w2 ⟨rfl,ho2,hb2⟩
    have HF2:=h_ (HCMP.out _ _ _ ho2)
    have HB2:=h_ hb2
    clear ho2 hb2 HF1
    go_wp2_with fail
    refine HF2.out.mono ?_
    rintro e w4 ⟨v3,rfl,ho3,hb3⟩
    have hb4:fC w.heap.size w w4:=((HB1.out.trans (HRB.out.mono hs1)).trans (HB2.out.mono hs1)).trans (hb3.mono hs1)
    have HO3:=h_ (HNM.out _ _ _ ho3)
    have HB4:=h_ hb4
    have hnb:=h_ (fun b (e:v3.ownBlock=some b)=>(ho3.lt b e).1)
    clear ho3 hb3 hb4 HF2 HCMP HFIN HNM HST HREL HS0 HRB HB2 HSL
    generalize hNN:aR x y z=ns at *
    obtain⟨nb,nc,rfl⟩:∃ a c,v3=.slice a ns.length c:=by
     rcases HO3.out.2 with⟨rfl,h0⟩|⟨g,cap,_,rfl,_⟩
     · exact⟨none,0,by rw [h0]⟩
     · exact⟨_,_,rfl⟩
    have hs4:=HB4.out.size
    go_wp2_with fail
    go_loopw [36] (fun i wr=>∃ k:Nat,k≤ns.length∧i=.int .i64 k∧zjS x y z m B g ns w4 k wr) (fun i _=>ns.length-(intOf i).toNat)
    case atStart=>exact⟨0,by omega,rfl,HR0.out _ HB4.out⟩
    case round =>
     clear hk hlt
     obtain⟨k,hk,rfl,hrel⟩:=hrel
     by_cases hlt:k<ns.length
     · obtain⟨n,hn⟩:∃ n,ns[k]? =some n:=⟨_,List.getElem?_eq_getElem hlt⟩
       obtain⟨rv,kv,hat,hstep⟩:=hrel
       have hbl:=hstep.low (HLW.out _ HB4.out)
       have hsr:=hstep.1.size
       have hsz:=fI hs4 hsr
       obtain⟨q,qc,hnbq⟩:∃ q c,(fw.slice nb ns.length nc)=.slice (some ⟨q,0,none⟩) ns.length c:=zat HO3.out (by omega)
       obtain⟨rfl,_,rfl⟩:=fw.slice.inj hnbq
       have hqb:=hnb.out q rfl
       have hcell:wr.cell? ⟨q,k,none⟩=some (.string n):=by
        rw [hstep.1.cell (HO3.out.lt q rfl).2 (fun hm=>by have:=HMINE.out q hm;omega),HO3.out.cellAt k (by omega)]
        simp [hn]
       have hcapn:ns.length≤nc:=by
        rcases HO3.out.2 with⟨h0,_⟩|⟨g',cap,cur,h0,_,_,hnc,_⟩
        · simp at h0
        · simp only [fw.slice.injEq] at h0
          obtain⟨_,_,rfl⟩:=h0
          exact hnc
       have hbw:=fC.trans (HB4.out.mono (Nat.le_of_lt hgl)) hbl
       have HN1:=h_ (fun w1 (h:fC wr.heap.size wr w1)=>zaw a1 c1 x n w1 (HX.out _ (hbw.trans (h.mono (by omega))) (fI hsz h.size)) (by omega))
       have HN2:=h_ (fun w1 (h:fC wr.heap.size wr w1)=>zaw a2 c2 y n w1 (HY.out _ (hbw.trans (h.mono (by omega))) (fI hsz h.size)) (by omega))
       have HN3:=h_ (fun w1 (h:fC wr.heap.size wr w1)=>zaw a3 c3 z n w1 (HZ.out _ (hbw.trans (h.mono (by omega))) (fI hsz h.size)) (by omega))
       have HV:=h_ (fun w1=>zc8 (zaB (aQ x n)) (zaB (aQ y n)) (zaB (aQ z n)) w1)
       have hpk:=zb9 zaB ziz may8 zjy (aQ x n) (aQ y n) (aQ z n)
       have hle:=zfe x y z (ns.take k)
       rw [List.length_take] at hle
       have e1:=zfX x y z ns k n hn
       have e2:=zff x y z ns k n hn
       obtain⟨m1,hm1⟩:∃ m1:Mg,m1={ m with rv:=rv,rG:=bY x y z (ns.take k),kv:=kv,cls:=m.cls++bD x y z (ns.take k) }:=⟨_,rfl⟩
       have hm1r:m1.rG.length≤3000:=by subst hm1;simp only;omega
       have hm1c:m1.cls.length≤4000:=by subst hm1;simp only [fN];omega
       obtain⟨r,bad,hmr⟩:∃ r bad,zbo x y z n=(r,bad):=⟨_,_,rfl⟩
       rw [hmr] at e1 e2
       have HEND:=h_ (show ∀ (rv' kv':fw) (w':fm),({ m1 with rv:=rv',rG:=m1.rG++r.toList,kv:=kv',cls:=m1.cls++clIf bad (zhi n) }:Mg).at_ B g w'→Mg.step g m1 { m1 with rv:=rv',rG:=m1.rG++r.toList,kv:=kv',cls:=m1.cls++clIf bad (zhi n) } wr w'→zjS x y z m B g ns w4 (k+1) w' from fun rv' kv' w' q1 q2=>by
        subst hm1
        refine⟨rv',kv',?_,?_⟩
        · rw [e1,e2,←fS];exact q1
        · rw [e1,e2,←fS];exact hstep.trans q2)
       have HAT:=h_ (show m1.at_ B g wr from hm1▸hat)
       have HCELL:=h_ hcell
       clear hm1 e1 e2 hat hstep hle hbw hbl
       unfold zbo at hmr
       rw [hmr] at hpk
       rw [←hpk] at HV
       clear hpk hmr
       have HCL:=h_ (fun(m2:Mg) (w1:fm) (h:m2.at_ B g w1) (hB2:B≤w1.heap.size) (hl:m2.cls.length≤1000000)=>(show Calls Tryz.prog 130 #[.pointer (some ⟨g,0,none⟩),.bool bad,.agg #[.int .u8 2,.int .i64 0,.string n,.string ⟨#[82,69,71,73,79,78]⟩]] w1 (zbX B g m2.arr m2.kv (m2.cls++clIf bad (zhi n)) w1) from ek B g m2.arr m2.kv m2.cls bad (zhi n) w1 h.row8 hB2 hl))
       simp only at HV
       generalize aF (zaB (aQ x n))=A1 at HN1 HV
       generalize aF (zaB (aQ y n))=A2 at HN2 HV
       generalize aF (zaB (aQ z n))=A3 at HN3 HV
       have hBr:B≤wr.heap.size:=by omega
       go_wp2_with fail
       refine(HN1.out _ (fD _ _)).mono ?_
       rintro e w5 ⟨rfl,hb5⟩
       go_wp2_with fail
       refine(HN2.out _ hb5).mono ?_
       rintro e w6 ⟨rfl,hb6⟩
       have hc6:=hb5.trans (hb6.mono hb5.size)
       clear hb6
       go_wp2_with fail
       refine(HN3.out _ hc6).mono ?_
       rintro e w7 ⟨rfl,hb7⟩
       have hc7:=hc6.trans (hb7.mono hc6.size)
       clear hb7 hc6 hb5
       go_wp2_with fail
       refine(HV.out _).mono ?_
       rintro e w8 ⟨rfl,hb8⟩
       have hc8:=hc7.trans (hb8.mono hc7.size)
       have hs8:=hc8.size
       clear hb8 hc7 HN1 HN2 HN3 HV HCELL hcell
       have HA9:=h_ (fun o=>HAT.out.later (hc8.alloc hc8.size o))
       have HS9:=h_ (fun o=>Mg.step.of_below (g:=g) (m:=m1) (hc8.alloc hc8.size o))
       clear hc8
       cases r with
       | none =>
         simp only [zaB,aF,bB]
         go_wp2_with fail
         refine(HCL.out m1 _ (HA9.out _) (by simp;omega) (by omega)).mono ?_
         rintro e wA ⟨rfl,hp⟩
         obtain⟨kv',q1,q2⟩:=(HA9.out _).clash hp
         have HE:=h_ (HEND.out m1.rv kv' wA (by simpa using q1) (by simpa using (HS9.out _).trans q2))
         clear hp q1 q2 HA9 HS9 HCL HAT HEND
         go_wp2_with fail
         go_roundw
         case rel=>exact⟨k+1,by omega,by go_num,HE.out⟩
         case measure=>simp [intOf];omega
       | some r0 =>
         obtain⟨rn,rt,rh,rl,rw_,ra,rb⟩:=r0
         simp only [zaB,aF]
         go_upto_region 12 with fail
         have HA6:=h_ (HA9.out (.cells #[fM rn,.int .i64 rt,.int .i64 rh,.int .i64 rl,.int .i64 rw_,.int .u8 ra,.bool rb,.bool true] 198))
         have HS6:=h_ (HS9.out (.cells #[fM rn,.int .i64 rt,.int .i64 rh,.int .i64 rl,.int .i64 rw_,.int .u8 ra,.bool rb,.bool true] 198))
         have hxb:=fu w8 (.cells #[fM rn,.int .i64 rt,.int .i64 rh,.int .i64 rl,.int .i64 rw_,.int .u8 ra,.bool rb,.bool true] 198)
         have hs6:(w8.alloc (.cells #[fM rn,.int .i64 rt,.int .i64 rh,.int .i64 rl,.int .i64 rw_,.int .u8 ra,.bool rb,.bool true] 198)).heap.size=w8.heap.size+1:=fH _ _
         clear HA9 HS9
         generalize (w8.alloc (.cells #[fM rn,.int .i64 rt,.int .i64 rh,.int .i64 rl,.int .i64 rw_,.int .u8 ra,.bool rb,.bool true] 198))=W6 at *
         obtain⟨ka,kc,hrv⟩:=HA6.out.row5.slice
         have hg6:=HA6.out.glt
         have c5:W6.cell? ⟨g,5,none⟩=some (.slice ka m1.rG.length kc):=by
          rw [ft _ _ 5 m1.arr 142 (0,0) HA6.out.cells,←hrv];rfl
         have c5':∀ o,(W6.alloc o).cell? ⟨g,5,none⟩=some (.slice ka m1.rG.length kc):=fun o=>by
          rw [fG _ _ _ (by simpa using hg6)];exact c5
         have db:∀ j,W6.cell? ⟨w8.heap.size,j,none⟩=_:=fun j=>ft _ _ j _ 198 (0,0) hxb
         have hl6:w8.heap.size<W6.heap.size:=by omega
         have db':∀ o j,(W6.alloc o).cell? ⟨w8.heap.size,j,none⟩=_:=fun o j=>(fG _ _ _ (by simpa using hl6)).trans (db j)
         have mixed:Tryz.prog.follows Departure.mixedOrders=true:=by kernel_rfl
         have HO2:=h_ (fun(o:Obj)=>(show(W6.alloc o).drew.ownsRow B 44 7 (.slice ka m1.rG.length kc) m1.rG.length (m1.rG.flatMap Reg.enc) from hrv▸HA6.out.rG.alloc o))
         have HN:=h_ (zen W6 [fM rn,.int .i64 rt,.int .i64 rh,.int .i64 rl,.int .i64 rw_,.int .u8 ra,.bool rb] 44)
         have h63:=h_ (show m1.rG.length+1≤maxLen by unfold maxLen;omega)
         have HBS:=h_ (fun(o:Obj)=>(show B≤(W6.alloc o).drew.heap.size from by show B≤(W6.alloc o).heap.size;simp;omega))
         have H5:=h_ (show m1.arr[5]? =some (.slice ka m1.rG.length kc) from hrv▸rfl)
         have HRW:=h_ (show dM 142 5 44 7 B g m1.arr (.slice ka m1.rG.length kc) m1.rG.length (m1.rG.flatMap Reg.enc) W6 from hrv▸HA6.out.row5)
         have HAF:=h_ (fun(o:Obj) (v':fw) (w2:fm)=>eO (v':=v') (w2:=w2) (m:=m1.rG.length+1) (ys:=m1.rG.flatMap Reg.enc++[fM rn,.int .i64 rt,.int .i64 rh,.int .i64 rl,.int .i64 rw_,.int .u8 ra,.bool rb]) HRW.out (zeo W6 o))
         have one7:=h_ (Reg.one ⟨rn,rt,rh,rl,rw_,ra,rb⟩)
         simp only [Reg.enc] at one7
         have HF:=h_ (fun(v':fw) (w2:fm) (ho:w2.ownsRow B 44 7 v' (m1.rG.length+1) (m1.rG.flatMap Reg.enc++[fM rn,.int .i64 rt,.int .i64 rh,.int .i64 rl,.int .i64 rw_,.int .u8 ra,.bool rb])) hg' hap hk hf=>(show ∃ rv',({ m1 with rv:=rv',rG:=m1.rG++[⟨rn,rt,rh,rl,rw_,ra,rb⟩] }:Mg).at_ B g (w2.setCell ⟨g,5,none⟩ v')∧Mg.step g m1 { m1 with rv:=rv',rG:=m1.rG++[⟨rn,rt,rh,rl,rw_,ra,rb⟩] } W6 (w2.setCell ⟨g,5,none⟩ v') from HA6.out.reg (hrv▸eN (m:=(m1.rG++[(⟨rn,rt,rh,rl,rw_,ra,rb⟩:Reg)]).length) (ys:=(m1.rG++[(⟨rn,rt,rh,rl,rw_,ra,rb⟩:Reg)]).flatMap Reg.enc) HRW.out (by simpa [Reg.enc] using ho) hg' hap hk hf)))
         clear hxb hs6 HAT
         go_region_law_o (refine zaG rfl (.tmp 60) (.tmp 63) 23 rfl B 44 i0 _ 7 56 Tryz.underlying23 II.out I0.out I1.out I2.out rfl (by decide) (.slice ka m1.rG.length kc) m1.rG.length (m1.rG.flatMap Reg.enc) (by rfl) (HO2.out _) ⟨W6.heap.size,0,none⟩ 1 1 [fM rn,.int .i64 rt,.int .i64 rh,.int .i64 rl,.int .i64 rw_,.int .u8 ra,.bool rb] (by rfl) rfl HN.out one7.out h63.out (by omega) (HBS.out _) ?_;intro v' w2 hown2 hgrow2 hat2;obtain⟨hv',hgc,hap,hkp,hfr⟩:=HAF.out _ _ _ hown2 hgrow2 hat2;obtain⟨va,vc,rfl⟩:=hv';have c5n:w2.cell? ⟨g,5,none⟩=some (.slice ka m1.rG.length kc):=(ft _ _ 5 m1.arr 142 (0,0) hgc).trans H5.out;have z5n:w2.frozen? ⟨g,5,none⟩=false:=(by simp [fF,hgc]);have HX2:=h_ hown2;have HGC:=h_ hgc;have HAP:=h_ hap;have HKP:=h_ hkp;have HFR:=h_ hfr;clear hown2 hgrow2 hat2 hgc hap hkp hfr)
         all_goals
          obtain⟨rv',q1,q2⟩:=HF.out _ _ HX2.out HGC.out HAP.out HKP.out HFR.out
          have HQ1:=h_ q1
          have HQ2:=h_ q2
          clear q1 q2
          go_wp2_with fail
          refine(HCL.out { m1 with rv:=rv',rG:=m1.rG++[⟨rn,rt,rh,rl,rw_,ra,rb⟩] } _ HQ1.out (by have:=HQ2.out.1.size;omega) (by show m1.cls.length≤1000000;omega)).mono ?_
          rintro e wA ⟨rfl,hp⟩
          obtain⟨kv',p1,p2⟩:=HQ1.out.clash hp
          have HE:=h_ (HEND.out rv' kv' wA p1 ((HS6.out.trans HQ2.out).trans p2))
          clear hp p1 p2 HF HCL HEND
          go_wp2_with fail
          go_roundw
          case rel=>exact⟨k+1,by omega,by go_num,HE.out⟩
          case measure=>simp [intOf];omega
     · obtain rfl:k=ns.length:=by omega
       have HE:=h_ (HQ.out _ _ HB4.out hrel)
       clear hrel
       go_wp2_with fail
       go_end0
       exact HE.out
end Go.Proofs.YtnlnmbcaongehaaGreatDoor
