/- merge.comments: the arms of a round's switch, each by itself. (printed by gen_mgcmarm.py) -/
import Derived.Test.YtnlnmbcaongehaaGreatDoorM21
set_option linter.unusedVariables false
set_option linter.unusedSimpArgs false
set_option maxRecDepth 100000
set_option maxHeartbeats 12800000
open Go.Lib renaming hid→h_
open Go renaming wpAnyH_take→fm,cell_of_row→fp,wpAnyH_ready→ft,heap_alloc_last→fu,wpAnyH_done→fw,setRow_heap→fB,wp_store_row→fC,below_setRow→fD,World→fE,Value→fF,wp_region_held_drew→fG
open Go.World renaming frozen?→fH,setRow→fI
open Go.Value renaming int→fJ,oneCell'→fK
open Go.RowKit renaming Below→fL
open Go.Act renaming put→fM
open List renaming setIfInBounds_toArray→fN,getElem_cons_zero→fO,getElem_cons_succ→fP,getElem_toArray→fQ,set_cons_zero→fR,set_cons_succ→fS,toArray→fT,length_append→fU
open Array renaming toArray_toList→fV,getElem?_eq_some_iff→fW
open Go.AllReadyH renaming cons→fX,nil→fY
open Nat renaming le_trans→fZ
namespace Go.Proofs.YtnlnmbcaongehaaGreatDoor
open Go.RowKit
def zjV (n:Nat):Code→Bool
 | .region id _ _=>id==n
 | .seq a _=>zjV n a
 | _=>false
def ew (n:Nat):Code→Option Code
 | .seq a b=>if zjV n (.seq a b)=true then some (.seq a b) else (ew n a).orElse fun _=>ew n b
 | .block _ c=>ew n c
 | .loop c=>ew n c
 | .cond _ a b=>(ew n a).orElse fun _=>ew n b
 | _=>none
def zeq (n:Nat):Code→Option Code
 | .region id ops b=>if id==n then some (.region id ops b) else none
 | .seq a b=>(zeq n a).orElse fun _=>zeq n b
 | .block _ c=>zeq n c
 | .loop c=>zeq n c
 | .cond _ a b=>(zeq n a).orElse fun _=>zeq n b
 | _=>none
theorem CSt.drew {m1:Mg} {B g G S:Nat} {id:Int} {X Y Z O:Array fF} {cls:List Cl} {wr wx:fE} (h:CSt m1 B g G S id X Y Z O cls wr wx)(hG:G<S):CSt m1 B g G S id X Y Z O cls wr wx.drew:=h.later hG (fL.refl _ _).drew
theorem CSt.size {m1:Mg} {B g G S:Nat} {id:Int} {X Y Z O:Array fF} {cls:List Cl} {wr wx:fE} (h:CSt m1 B g G S id X Y Z O cls wr wx):S≤wx.heap.size:=by have:=h.lt;omega
theorem CSt.row {m1:Mg} {B g G S:Nat} {id:Int} {X Y Z O:Array fF} {cls:List Cl} {wr wx:fE} (h:CSt m1 B g G S id X Y Z O cls wr wx)(hG:G<S)(hS:wr.heap.size≤S)(O':Array fF):CSt m1 B g G S id X Y Z O' cls wr (wx.setRow (S+1+1+1+1) O'):=by
 have hs:∀ b,b≠S+1+1+1+1→(wx.setRow (S+1+1+1+1) O').heap[b]? =wx.heap[b]?:=fun b hb=>by
  unfold fI
  show(wx.heap.modify _ _)[b]? =wx.heap[b]?
  rw [Array.getElem?_modify,if_neg (fun e=>hb e.symm)]
 have hz:(wx.setRow (S+1+1+1+1) O').heap.size=wx.heap.size:=by unfold fI;simp
 obtain⟨kv,h1,h2,h3⟩:=h.m
 have hk:Kept (Mg.mine g m1) wr (wx.setRow (S+1+1+1+1) O'):=h2.1.trans (S':=fun k=>k=S+1+1+1+1) ⟨rfl,rfl,rfl,Nat.le_of_eq hz.symm,fun k hk hn=>hs k hn⟩ (fun i hi e=>absurd hi (by have e':i=S+1+1+1+1:=e;omega))
 refine⟨(hs _ (by omega)).trans h.b0,(hs _ (by omega)).trans h.i,(hs _ (by omega)).trans h.x,(hs _ (by omega)).trans h.y,(hs _ (by omega)).trans h.z,fB _ _ _ _ _ _ h.o,⟨kv,?_,⟨hk,h2.2⟩,h3⟩,h.u⟩
 refine h1.kept (by rw [hz];exact Nat.le_refl _) fun b hb hm=>hs b ?_
 rcases hm with hm|⟨e,he,hm⟩
 · have:=h3 b hm
   omega
 · have:=h.u e he b hm
   omega
theorem aC {P:Program} {ops:Array Oper} {Q:Exit→Act→fE→Prop} {o:Oper} {os:List Oper} {a:Act} {w:fE} {v:fF} (hw:Region.wanted o (yielded ops a.tmps)=true)(hy:(execOp a.eval o).run P w=.ok (.value v) w)(h:wpList P ops Q os (a.put o.dst v) w):wpList P ops Q (o::os) a w:=BigFrame.wpList_want hw fun K hK=>by
 unfold Oper.wp
 rw [hy]
 exact hK _ _ h
theorem cM {P:Program} {ops:Array Oper} {Q:Exit→Act→fE→Prop} {o:Oper} {os:List Oper} {a:Act} {w:fE} (m x:Operand)(t:TypeId)(hop:o.op=Op.lookup t m x false) {mv key v:fF} (hm:a.eval m=mv)(hx:a.eval x=key)
 (hrun:(Instr.lookup t mv key false).run P w=.ok v w) (hw:Region.wanted o (yielded ops a.tmps)=true) (h:wpList P ops Q os (a.put o.dst v) w):wpList P ops Q (o::os) a w :=
 aC hw (by simp [execOp,hop,hm,hx,hrun,Result.andThen]) h
theorem zgC {ops:Array Oper} {Q:Exit→Act→fE→Prop} {o:Oper} {os:List Oper} {a:Act} {w:fE} (x y:Operand)(hop:o.op=Op.binOp .neq 52 x y 52) {X Y:Array fF} {r:Bool} (hm:a.eval x=.agg X)(hx:a.eval y=.agg Y)
 (hrun:(binOp .neq 52 (.agg X) (.agg Y)).run Tryz.prog w=.ok (.bool r) w) (hw:Region.wanted o (yielded ops a.tmps)=true) (h:wpList Tryz.prog ops Q os (a.put o.dst (.bool r)) w):wpList Tryz.prog ops Q (o::os) a w :=
 aC hw (by
  have hg:(eqGuard .neq 52 x y (.agg X) (.agg Y)).run Tryz.prog w=.ok () w:=by simp [go_sem]
  simp [execOp,hop,hm,hx,hrun,hg,Result.andThen]) h
theorem zbi:(Tryz.prog.info? 52).map (·.size)=some 8:=by kernel_rfl
theorem one8 (a b c d:Int)(e f:ByteArray)(g h:Bool):(#[fJ .i64 a,.int .i64 b,.int .i64 c,.int .i64 d,.string e,.string f,.bool g,.bool h].all (·.oneCell'))=true:=by simp [fK]
theorem zaH:(Tryz.prog.info? 211).map (·.size)=some 4:=by kernel_rfl
theorem za6 (id:Int)(b:Bool)(f:ByteArray):cX id (fIf b f)=clIf b ⟨4,id,ak,f⟩:=by cases b<;>rfl
theorem zcX (id:Int)(a b:List ByteArray):cX id (a++b)=cX id a++cX id b:=by unfold cX;exact List.map_append ..
theorem zi7 (x y:Cm):zgj x y=anc4 (en x) (en y):=by
 simp only [zgj,anc4,en,Bool.and_assoc]
theorem one4 (a b c:Int)(d:Bool):(#[fJ .i64 a,.int .i64 b,.int .i64 c,.bool d].all (·.oneCell'))=true:=by simp [fK]
theorem zgH {b:Nat} {w w':fE} (h:Kept (fun k=>k=b) w w')(j:Nat)(v:fF):Kept (fun k=>k=b) w (w'.setCell ⟨b,j,none⟩ v):=h.setCell (p:=⟨b,j,none⟩) (.inr rfl) v
theorem zae (b:Bool)(c:Cl):(clIf b c).length≤1:=by cases b<;>simp [clIf]
theorem zjL (m1:Mg)(B g G S:Nat)(id:Int)(x y z:Cm)(wr w0:fE)(hGS:G<S)(hS:wr.heap.size≤S)(hB:B≤S)(hl:m1.cls.length≤60000)(hst:CSt m1 B g G S id x.enc.toArray y.enc.toArray z.enc.toArray x.enc.toArray m1.cls wr w0)(Q:Exit→Act→fE→Prop)(hP:∀ ch a a' w,a'.defers=a.defers→Q (.panic ch) a w→Q (.panic ch) a' w)(s0 s1 s2 s3 s5 s6 s7 s8 s9 s10 s11 s12 s15 s17 s19 s22 s23 s24 s25 s26 s27 s28 s29 s30 s31 s32 s33 s34 s35 s36 s37 s38 s39 s40 s41 s42 s43 s44 s45 s46 s47 s48 s49 s50 s51 s52 s53 s54 s55 s56 s57 s58 s59 s60 s61 s62 s63 s64 s65 s66 s67 s68 s69 s70 s71 s72 s73 s74 s75 s76 s77 s78 s79 s80 s81 s82 s83 s84 s85 s86 s87 s88 s89 s90 s91 s92 s93 s94 s95 s96 s97 s98 s99 s100 s101 s102 s103 s104 s105 s106 s107 s108 s109 s110 s111 s112 s113 s114 s115 s116 s117 s118 s119 s120 s121 s122 s123 s124 s125 s126 s127 s128 s129 s130 s131 s132 s133 s134 s135 s136 s137 s138 s139 s140 s141 s142 s143 s144 s145 s146 s147 s148 s149 s150 s151 s152 s153 s154 s155 s156 s157 s158 s159 s160 s161 s162 s163 s164 s165 s166 s167 s168 s169 s170 s171 s172 s173 s174 s175 s176 s177 s178 s179 s180 s181 s182 s183 s184 s185 s186 s187 s188 s189 s190 s191 s192 s193 s194 s195 s196 s197 s198 s199 s200 s201 s202 s203 s204 s205 s206 s207 s208 s209 s210 s211 s212 s213 s214 s215 s216 s217:fF)
 (hfin:∀ (u22 u23 u106 u107 u108 u109 u110 u111 u112 u113 u114 u115 u116 u117 u118 u119 u120 u121 u122 u123 u124 u125 u126 u127 u128 u129 u130 u131 u132 u133 u134 u135 u136 u137 u138 u139 u140 u141 u142 u143 u144 u145 u146 u147 u148 u149 u150 u151 u152 u153 u154 u155 u156 u157 u158 u159 u160 u161 u162 u163 u164 u165 u166 u167 u168 u169 u170 u171 u172:fF) (wx:fE),CSt m1 B g G S id x.enc.toArray y.enc.toArray z.enc.toArray (zaQ x y z).enc.toArray (m1.cls++cX id (dm x y z)) wr wx→Q .normal { tmps:=#[s0,s1,s2,s3,.pointer (some ⟨G,0,none⟩),s5,s6,s7,s8,s9,s10,s11,s12,.pointer (some ⟨S,0,none⟩),.pointer (some ⟨S+1,0,none⟩),s15,.pointer (some ⟨S+1+1,0,none⟩),s17,.pointer (some ⟨S+1+1+1,0,none⟩),s19,.func (.func 141) #[] #[.pointer (some ⟨G,0,none⟩),.pointer (some ⟨S,0,none⟩)],.pointer (some ⟨S+1+1+1+1,0,none⟩),u22,u23,s24,s25,s26,s27,s28,s29,s30,s31,s32,s33,s34,s35,s36,s37,s38,s39,s40,s41,s42,s43,s44,s45,s46,s47,s48,s49,s50,s51,s52,s53,s54,s55,s56,s57,s58,s59,s60,s61,s62,s63,s64,s65,s66,s67,s68,s69,s70,s71,s72,s73,s74,s75,s76,s77,s78,s79,s80,s81,s82,s83,s84,s85,s86,s87,s88,s89,s90,s91,s92,s93,s94,s95,s96,s97,s98,s99,s100,s101,s102,s103,s104,s105,u106,u107,u108,u109,u110,u111,u112,u113,u114,u115,u116,u117,u118,u119,u120,u121,u122,u123,u124,u125,u126,u127,u128,u129,u130,u131,u132,u133,u134,u135,u136,u137,u138,u139,u140,u141,u142,u143,u144,u145,u146,u147,u148,u149,u150,u151,u152,u153,u154,u155,u156,u157,u158,u159,u160,u161,u162,u163,u164,u165,u166,u167,u168,u169,u170,u171,u172,s173,s174,s175,s176,s177,s178,s179,s180,s181,s182,s183,s184,s185,s186,s187,s188,s189,s190,s191,s192,s193,s194,s195,s196,s197,s198,s199,s200,s201,s202,s203,s204,s205,s206,s207,s208,s209,s210,s211,s212,s213,s214,s215,s216,s217],defers:=[] } wx) :
 Code.wp Tryz.prog ((ew 20 (Tryz.f81.body.getD .skip)).getD .skip) Q { tmps:=#[s0,s1,s2,s3,.pointer (some ⟨G,0,none⟩),s5,s6,s7,s8,s9,s10,s11,s12,.pointer (some ⟨S,0,none⟩),.pointer (some ⟨S+1,0,none⟩),s15,.pointer (some ⟨S+1+1,0,none⟩),s17,.pointer (some ⟨S+1+1+1,0,none⟩),s19,.func (.func 141) #[] #[.pointer (some ⟨G,0,none⟩),.pointer (some ⟨S,0,none⟩)],.pointer (some ⟨S+1+1+1+1,0,none⟩),s22,s23,s24,s25,s26,s27,s28,s29,s30,s31,s32,s33,s34,s35,s36,s37,s38,s39,s40,s41,s42,s43,s44,s45,s46,s47,s48,s49,s50,s51,s52,s53,s54,s55,s56,s57,s58,s59,s60,s61,s62,s63,s64,s65,s66,s67,s68,s69,s70,s71,s72,s73,s74,s75,s76,s77,s78,s79,s80,s81,s82,s83,s84,s85,s86,s87,s88,s89,s90,s91,s92,s93,s94,s95,s96,s97,s98,s99,s100,s101,s102,s103,s104,s105,s106,s107,s108,s109,s110,s111,s112,s113,s114,s115,s116,s117,s118,s119,s120,s121,s122,s123,s124,s125,s126,s127,s128,s129,s130,s131,s132,s133,s134,s135,s136,s137,s138,s139,s140,s141,s142,s143,s144,s145,s146,s147,s148,s149,s150,s151,s152,s153,s154,s155,s156,s157,s158,s159,s160,s161,s162,s163,s164,s165,s166,s167,s168,s169,s170,s171,s172,s173,s174,s175,s176,s177,s178,s179,s180,s181,s182,s183,s184,s185,s186,s187,s188,s189,s190,s191,s192,s193,s194,s195,s196,s197,s198,s199,s200,s201,s202,s203,s204,s205,s206,s207,s208,s209,s210,s211,s212,s213,s214,s215,s216,s217],defers:=[] } w0:=by
 have HFIN:=h_ hfin
 have HP:=h_ hP
 clear hfin hP
 have hp:=zb9 en zgj anc4 zi7 x y z
 obtain⟨p1,h1⟩:∃ p,p=zfk x y z:=⟨_,rfl⟩
 obtain⟨p2,h2⟩:∃ p,p=zcb x y z:=⟨_,rfl⟩
 obtain⟨p3,h3⟩:∃ p,p=zgD x y z:=⟨_,rfl⟩
 obtain⟨p4,h4⟩:∃ p,p=zgF x y z:=⟨_,rfl⟩
 have HV:=h_ (fun w1=>zc9 (en x) (en y) (en z) w1)
 rw [←hp,show ai zgj x y z=p1 from h1.symm] at HV
 have HX:=h_ (fun w1=>bJ x w1)
 have HY:=h_ (fun w1=>bJ y w1)
 have HZ:=h_ (fun w1=>bJ z w1)
 have HV2:=h_ (fun w1=>bm x.author y.author z.author w1)
 have HV3:=h_ (fun w1=>bm x.text y.text z.text w1)
 have HV4:=h_ (fun w1=>zcl x.done y.done z.done w1)
 rw [show ai b_ x.author y.author z.author=p2 from h2.symm] at HV2
 rw [show ai b_ x.text y.text z.text=p3 from h3.symm] at HV3
 rw [show ai eB x.done y.done z.done=p4 from h4.symm] at HV4
 have e1:(zaQ x y z).enc.toArray=#[fJ .i64 x.id,.int .i64 p1.1.ev,.int .i64 p1.1.frm,.int .i64 p1.1.til,.string p2.1,.string p3.1,.bool p4.1,.bool p1.1.lost]:=by rw [h1,h2,h3,h4];rfl
 have e2:cX id (dm x y z)=clIf p1.2 ⟨4,id,ak,aT⟩++clIf p2.2 ⟨4,id,ak,bZ⟩++clIf p3.2 ⟨4,id,ak,zdl⟩++clIf p4.2 ⟨4,id,ak,zhI⟩:=by
  rw [h1,h2,h3,h4];unfold dm
  rw [zcX,zcX,zcX,za6,za6,za6,za6]
 rw [e1,e2] at HFIN
 clear e1 e2 h1 h2 h3 h4 hp
 obtain⟨⟨aid,aev,afrm,atil,aau,atx,adn,alo⟩,c1⟩:=p1
 obtain⟨b2,c2⟩:=p2
 obtain⟨b3,c3⟩:=p3
 obtain⟨b4,c4⟩:=p4
 obtain⟨xid,xev,xfrm,xtil,xau,xtx,xdn,xlo⟩:=x
 obtain⟨yid,yev,yfrm,ytil,yau,ytx,ydn,ylo⟩:=y
 obtain⟨zid,zev,zfrm,ztil,zau,ztx,zdn,zlo⟩:=z
 simp only [Cm.enc,en,aD] at *
 have HST:=h_ hst
 have HT:=h_ (fun(w2 w3:fE) (q:fL w0.heap.size w0 w2) (q3:fL w2.heap.size w2 w3)=>(q.trans (q3.mono q.size):fL w0.heap.size w0 w3))
 have HLT:=h_ hst.lt
 have kx:∀ w',fL w0.heap.size w0 w'→∀ j,w'.cell? ⟨S+1,j,none⟩=_:=fun w' q j=>fp _ _ j _ 52 (0,0) ((q.block _ (by have:=HLT.out;omega)).trans HST.out.x)
 have ky:∀ w',fL w0.heap.size w0 w'→∀ j,w'.cell? ⟨S+1+1,j,none⟩=_:=fun w' q j=>fp _ _ j _ 52 (0,0) ((q.block _ (by have:=HLT.out;omega)).trans HST.out.y)
 have kz:∀ w',fL w0.heap.size w0 w'→∀ j,w'.cell? ⟨S+1+1+1,j,none⟩=_:=fun w' q j=>fp _ _ j _ 52 (0,0) ((q.block _ (by have:=HLT.out;omega)).trans HST.out.z)
 have hd0:fL w0.heap.size w0 w0.drew:=(fL.refl _ _).drew
 clear hst
 conv=>arg 2;whnf
 go_upto_region 20 with fail
 go_cut [22,23] from 106 to 172 (fun t22 t23 wx=>∃ g2,t22=.pointer (some ⟨g2,0,none⟩)∧t23=.bool c1∧w0.heap.size≤g2∧fL w0.heap.size w0 wx∧wx.heap[g2]? =some (.cells #[fJ .i64 aev,.int .i64 afrm,.int .i64 atil,.bool alo] 211 (0,0)))
 case first =>
  refine fG (S:=fun w'=>fL w0.heap.size w0 w') (by kernel_rfl) hd0 (fun _=>?_)
  try simp only [fM,fQ,fO,fP,fN,fR,fS,fV]
  refine fm (i:=0) (v:=.agg #[fJ .i64 xid,.int .i64 xev,.int .i64 xfrm,.int .i64 xtil,.string xau,.string xtx,.bool xdn,.bool xlo]) rfl (by kernel_rfl) (by kernel_rfl) (by kernel_rfl) (fun _ _ _ h=>HP.out _ _ _ _ (by rfl) h) (.inl ⟨by rfl,fun w_ hS_=>by have q_:=kx _ hS_;go_simp⟩) hd0 ?_
  try simp only [fM,fQ,fO,fP,fN,fR,fS,fV]
  refine fm (i:=2) (v:=.agg #[fJ .i64 yid,.int .i64 yev,.int .i64 yfrm,.int .i64 ytil,.string yau,.string ytx,.bool ydn,.bool ylo]) rfl (by kernel_rfl) (by kernel_rfl) (by kernel_rfl) (fun _ _ _ h=>HP.out _ _ _ _ (by rfl) h) (.inl ⟨by rfl,fun w_ hS_=>by have q_:=ky _ hS_;go_simp⟩) hd0 ?_
  try simp only [fM,fQ,fO,fP,fN,fR,fS,fV]
  refine fm (i:=4) (v:=.agg #[fJ .i64 zid,.int .i64 zev,.int .i64 zfrm,.int .i64 ztil,.string zau,.string ztx,.bool zdn,.bool zlo]) rfl (by kernel_rfl) (by kernel_rfl) (by kernel_rfl) (fun _ _ _ h=>HP.out _ _ _ _ (by rfl) h) (.inl ⟨by rfl,fun w_ hS_=>by have q_:=kz _ hS_;go_simp⟩) hd0 ?_
  try simp only [fM,fQ,fO,fP,fN,fR,fS,fV]
  refine ft (rs:=[1,10]) (by kernel_rfl) (by simp) ?_
  refine fX rfl (fun K hK=>?_) (fX rfl (fun K hK=>?_) fY)
  · skip
    go_simp
    refine(HX.out _).mono ?_
    rintro e v1 ⟨rfl,hb_⟩
    have hv1:=HT.out _ _ hd0 hb_
    clear hb_
    go_wp2_with fail
    refine hK.out _ _ hv1 (fun _=>?_)
    clear hK
    try simp only [fM,fQ,fO,fP,fN,fR,fS,fV]
    refine ft (rs:=[3,10]) (by kernel_rfl) (by simp) ?_
    refine fX rfl (fun K hK=>?_) (fX rfl (fun K hK=>?_) fY)
    · skip
      go_simp
      refine(HY.out _).mono ?_
      rintro e v2 ⟨rfl,hb_⟩
      have hv2:=HT.out _ _ hv1 hb_
      clear hb_
      go_wp2_with fail
      refine hK.out _ _ hv2 (fun _=>?_)
      clear hK
      try simp only [fM,fQ,fO,fP,fN,fR,fS,fV]
      refine ft (rs:=[5,10]) (by kernel_rfl) (by simp) ?_
      refine fX rfl (fun K hK=>?_) (fX rfl (fun K hK=>?_) fY)
      · skip
        go_simp
        refine(HZ.out _).mono ?_
        rintro e v3 ⟨rfl,hb_⟩
        have hv3:=HT.out _ _ hv2 hb_
        clear hb_
        go_wp2_with fail
        refine hK.out _ _ hv3 (fun _=>?_)
        clear hK
        try simp only [fM,fQ,fO,fP,fN,fR,fS,fV]
        refine ft (rs:=[6,10]) (by kernel_rfl) (by simp) ?_
        refine fX rfl (fun K hK=>?_) (fX rfl (fun K hK=>?_) fY)
        · skip
          go_simp
          refine(HV.out _).mono ?_
          rintro e v4 ⟨rfl,hb_⟩
          have hv4:=HT.out _ _ hv3 hb_
          clear hb_
          go_wp2_with fail
          refine hK.out _ _ hv4 (fun _=>?_)
          clear hK
          try simp only [fM,fQ,fO,fP,fN,fR,fS,fV]
          refine fm (i:=7) (v:=.tuple #[.agg #[fJ .i64 aev,.int .i64 afrm,.int .i64 atil,.bool alo],.bool c1]) rfl (by kernel_rfl) (by kernel_rfl) (by kernel_rfl) (fun _ _ _ h=>HP.out _ _ _ _ (by rfl) h) (.inl ⟨by rfl,fun w_ hS_=>by go_simp⟩) hv4 ?_
          try simp only [fM,fQ,fO,fP,fN,fR,fS,fV]
          refine fm (i:=8) (v:=.agg #[fJ .i64 aev,.int .i64 afrm,.int .i64 atil,.bool alo]) rfl (by kernel_rfl) (by kernel_rfl) (by kernel_rfl) (fun _ _ _ h=>HP.out _ _ _ _ (by rfl) h) (.inl ⟨by rfl,fun w_ hS_=>by go_simp⟩) hv4 ?_
          try simp only [fM,fQ,fO,fP,fN,fR,fS,fV]
          refine fm (i:=9) (v:=.bool c1) rfl (by kernel_rfl) (by kernel_rfl) (by kernel_rfl) (fun _ _ _ h=>HP.out _ _ _ _ (by rfl) h) (.inl ⟨by rfl,fun w_ hS_=>by go_simp⟩) hv4 ?_
          try simp only [fM,fQ,fO,fP,fN,fR,fS,fV]
          refine ft (rs:=[10]) (by kernel_rfl) (by simp) ?_
          refine fX rfl (fun K hK=>?_) fY
          go_simp
          have hal:fL w0.heap.size w0 (v4.alloc (.cells #[.int .i64 0,.int .i64 0,.int .i64 0,.bool false] 211)):=hv4.alloc hv4.size _
          have ral:(v4.alloc (.cells #[.int .i64 0,.int .i64 0,.int .i64 0,.bool false] 211)).heap[v4.heap.size]? =some (.cells #[.int .i64 0,.int .i64 0,.int .i64 0,.bool false] 211 (0,0)):=fu _ _
          have hg:w0.heap.size≤v4.heap.size:=hv4.size
          refine hK.out _ _ hal (fun _=>?_)
          clear hK
          try simp only [fM,fQ,fO,fP,fN,fR,fS,fV]
          refine ft (rs:=[11]) (by kernel_rfl) (by simp) ?_
          refine fX rfl (fun K hK=>?_) fY
          rw [if_pos (by rfl)]
          refine fC 211 (.tmp 22) (.tmp 114) rfl (v4.heap.size) (fT [fJ .i64 aev,.int .i64 afrm,.int .i64 atil,.bool alo]) rfl rfl 211 _ ral zaH rfl (one4 _ _ _ _) ?_
          have hs9:=fD hal hg (fT [fJ .i64 aev,.int .i64 afrm,.int .i64 atil,.bool alo])
          have HZ9:=h_ (fB (v4.alloc (.cells #[.int .i64 0,.int .i64 0,.int .i64 0,.bool false] 211)) (v4.heap.size) _ (fT [fJ .i64 aev,.int .i64 afrm,.int .i64 atil,.bool alo]) _ _ ral)
          refine hK.out _ _ hs9 (fun _=>?_)
          clear hK
          try simp only [fM,fQ,fO,fP,fN,fR,fS,fV]
          refine fm (i:=12) (v:=.bool c1) rfl (by kernel_rfl) (by kernel_rfl) (by kernel_rfl) (fun _ _ _ h=>HP.out _ _ _ _ (by rfl) h) (.inl ⟨by rfl,fun w_ hS_=>by go_simp⟩) hs9 ?_
          try simp only [fM,fQ,fO,fP,fN,fR,fS,fV]
          refine fw (by kernel_rfl) ?_ _
          go_wp2_with fail
          go_meet
          exact⟨v4.heap.size,rfl,rfl,hg,hs9,HZ9.out⟩
        · skip
          go_simp
          have hal:fL w0.heap.size w0 (v3.alloc (.cells #[.int .i64 0,.int .i64 0,.int .i64 0,.bool false] 211)):=hv3.alloc hv3.size _
          have ral:(v3.alloc (.cells #[.int .i64 0,.int .i64 0,.int .i64 0,.bool false] 211)).heap[v3.heap.size]? =some (.cells #[.int .i64 0,.int .i64 0,.int .i64 0,.bool false] 211 (0,0)):=fu _ _
          have hg:w0.heap.size≤v3.heap.size:=hv3.size
          refine hK.out _ _ hal (fun _=>?_)
          clear hK
          try simp only [fM,fQ,fO,fP,fN,fR,fS,fV]
          refine ft (rs:=[6]) (by kernel_rfl) (by simp) ?_
          refine fX rfl (fun K hK=>?_) fY
          go_simp
          refine(HV.out _).mono ?_
          rintro e v4 ⟨rfl,hb_⟩
          have hv4:=HT.out _ _ hal hb_
          have rv4:=(hb_.block _ (fW.1 ral).1).trans ral
          clear hb_
          go_wp2_with fail
          refine hK.out _ _ hv4 (fun _=>?_)
          clear hK
          try simp only [fM,fQ,fO,fP,fN,fR,fS,fV]
          refine fm (i:=7) (v:=.tuple #[.agg #[fJ .i64 aev,.int .i64 afrm,.int .i64 atil,.bool alo],.bool c1]) rfl (by kernel_rfl) (by kernel_rfl) (by kernel_rfl) (fun _ _ _ h=>HP.out _ _ _ _ (by rfl) h) (.inl ⟨by rfl,fun w_ hS_=>by go_simp⟩) hv4 ?_
          try simp only [fM,fQ,fO,fP,fN,fR,fS,fV]
          refine fm (i:=8) (v:=.agg #[fJ .i64 aev,.int .i64 afrm,.int .i64 atil,.bool alo]) rfl (by kernel_rfl) (by kernel_rfl) (by kernel_rfl) (fun _ _ _ h=>HP.out _ _ _ _ (by rfl) h) (.inl ⟨by rfl,fun w_ hS_=>by go_simp⟩) hv4 ?_
          try simp only [fM,fQ,fO,fP,fN,fR,fS,fV]
          refine fm (i:=9) (v:=.bool c1) rfl (by kernel_rfl) (by kernel_rfl) (by kernel_rfl) (fun _ _ _ h=>HP.out _ _ _ _ (by rfl) h) (.inl ⟨by rfl,fun w_ hS_=>by go_simp⟩) hv4 ?_
          try simp only [fM,fQ,fO,fP,fN,fR,fS,fV]
          refine ft (rs:=[11]) (by kernel_rfl) (by simp) ?_
          refine fX rfl (fun K hK=>?_) fY
          rw [if_pos (by rfl)]
          refine fC 211 (.tmp 22) (.tmp 114) rfl (v3.heap.size) (fT [fJ .i64 aev,.int .i64 afrm,.int .i64 atil,.bool alo]) rfl rfl 211 _ rv4 zaH rfl (one4 _ _ _ _) ?_
          have hs9:=fD hv4 hg (fT [fJ .i64 aev,.int .i64 afrm,.int .i64 atil,.bool alo])
          have HZ9:=h_ (fB v4 (v3.heap.size) _ (fT [fJ .i64 aev,.int .i64 afrm,.int .i64 atil,.bool alo]) _ _ rv4)
          refine hK.out _ _ hs9 (fun _=>?_)
          clear hK
          try simp only [fM,fQ,fO,fP,fN,fR,fS,fV]
          refine fm (i:=12) (v:=.bool c1) rfl (by kernel_rfl) (by kernel_rfl) (by kernel_rfl) (fun _ _ _ h=>HP.out _ _ _ _ (by rfl) h) (.inl ⟨by rfl,fun w_ hS_=>by go_simp⟩) hs9 ?_
          try simp only [fM,fQ,fO,fP,fN,fR,fS,fV]
          refine fw (by kernel_rfl) ?_ _
          go_wp2_with fail
          go_meet
          exact⟨v3.heap.size,rfl,rfl,hg,hs9,HZ9.out⟩
      · skip
        go_simp
        have hal:fL w0.heap.size w0 (v2.alloc (.cells #[.int .i64 0,.int .i64 0,.int .i64 0,.bool false] 211)):=hv2.alloc hv2.size _
        have ral:(v2.alloc (.cells #[.int .i64 0,.int .i64 0,.int .i64 0,.bool false] 211)).heap[v2.heap.size]? =some (.cells #[.int .i64 0,.int .i64 0,.int .i64 0,.bool false] 211 (0,0)):=fu _ _
        have hg:w0.heap.size≤v2.heap.size:=hv2.size
        refine hK.out _ _ hal (fun _=>?_)
        clear hK
        try simp only [fM,fQ,fO,fP,fN,fR,fS,fV]
        refine ft (rs:=[5]) (by kernel_rfl) (by simp) ?_
        refine fX rfl (fun K hK=>?_) fY
        go_simp
        refine(HZ.out _).mono ?_
        rintro e v3 ⟨rfl,hb_⟩
        have hv3:=HT.out _ _ hal hb_
        have rv3:=(hb_.block _ (fW.1 ral).1).trans ral
        clear hb_
        go_wp2_with fail
        refine hK.out _ _ hv3 (fun _=>?_)
        clear hK
        try simp only [fM,fQ,fO,fP,fN,fR,fS,fV]
        refine ft (rs:=[6]) (by kernel_rfl) (by simp) ?_
        refine fX rfl (fun K hK=>?_) fY
        go_simp
        refine(HV.out _).mono ?_
        rintro e v4 ⟨rfl,hb_⟩
        have hv4:=HT.out _ _ hv3 hb_
        have rv4:=(hb_.block _ (fW.1 rv3).1).trans rv3
        clear hb_
        go_wp2_with fail
        refine hK.out _ _ hv4 (fun _=>?_)
        clear hK
        try simp only [fM,fQ,fO,fP,fN,fR,fS,fV]
        refine fm (i:=7) (v:=.tuple #[.agg #[fJ .i64 aev,.int .i64 afrm,.int .i64 atil,.bool alo],.bool c1]) rfl (by kernel_rfl) (by kernel_rfl) (by kernel_rfl) (fun _ _ _ h=>HP.out _ _ _ _ (by rfl) h) (.inl ⟨by rfl,fun w_ hS_=>by go_simp⟩) hv4 ?_
        try simp only [fM,fQ,fO,fP,fN,fR,fS,fV]
        refine fm (i:=8) (v:=.agg #[fJ .i64 aev,.int .i64 afrm,.int .i64 atil,.bool alo]) rfl (by kernel_rfl) (by kernel_rfl) (by kernel_rfl) (fun _ _ _ h=>HP.out _ _ _ _ (by rfl) h) (.inl ⟨by rfl,fun w_ hS_=>by go_simp⟩) hv4 ?_
        try simp only [fM,fQ,fO,fP,fN,fR,fS,fV]
        refine fm (i:=9) (v:=.bool c1) rfl (by kernel_rfl) (by kernel_rfl) (by kernel_rfl) (fun _ _ _ h=>HP.out _ _ _ _ (by rfl) h) (.inl ⟨by rfl,fun w_ hS_=>by go_simp⟩) hv4 ?_
        try simp only [fM,fQ,fO,fP,fN,fR,fS,fV]
        refine ft (rs:=[11]) (by kernel_rfl) (by simp) ?_
        refine fX rfl (fun K hK=>?_) fY
        rw [if_pos (by rfl)]
        refine fC 211 (.tmp 22) (.tmp 114) rfl (v2.heap.size) (fT [fJ .i64 aev,.int .i64 afrm,.int .i64 atil,.bool alo]) rfl rfl 211 _ rv4 zaH rfl (one4 _ _ _ _) ?_
        have hs9:=fD hv4 hg (fT [fJ .i64 aev,.int .i64 afrm,.int .i64 atil,.bool alo])
        have HZ9:=h_ (fB v4 (v2.heap.size) _ (fT [fJ .i64 aev,.int .i64 afrm,.int .i64 atil,.bool alo]) _ _ rv4)
        refine hK.out _ _ hs9 (fun _=>?_)
        clear hK
        try simp only [fM,fQ,fO,fP,fN,fR,fS,fV]
        refine fm (i:=12) (v:=.bool c1) rfl (by kernel_rfl) (by kernel_rfl) (by kernel_rfl) (fun _ _ _ h=>HP.out _ _ _ _ (by rfl) h) (.inl ⟨by rfl,fun w_ hS_=>by go_simp⟩) hs9 ?_
        try simp only [fM,fQ,fO,fP,fN,fR,fS,fV]
        refine fw (by kernel_rfl) ?_ _
        go_wp2_with fail
        go_meet
        exact⟨v2.heap.size,rfl,rfl,hg,hs9,HZ9.out⟩
    · skip
      go_simp
      have hal:fL w0.heap.size w0 (v1.alloc (.cells #[.int .i64 0,.int .i64 0,.int .i64 0,.bool false] 211)):=hv1.alloc hv1.size _
      have ral:(v1.alloc (.cells #[.int .i64 0,.int .i64 0,.int .i64 0,.bool false] 211)).heap[v1.heap.size]? =some (.cells #[.int .i64 0,.int .i64 0,.int .i64 0,.bool false] 211 (0,0)):=fu _ _
      have hg:w0.heap.size≤v1.heap.size:=hv1.size
      refine hK.out _ _ hal (fun _=>?_)
      clear hK
      try simp only [fM,fQ,fO,fP,fN,fR,fS,fV]
      refine ft (rs:=[3]) (by kernel_rfl) (by simp) ?_
      refine fX rfl (fun K hK=>?_) fY
      go_simp
      refine(HY.out _).mono ?_
      rintro e v2 ⟨rfl,hb_⟩
      have hv2:=HT.out _ _ hal hb_
      have rv2:=(hb_.block _ (fW.1 ral).1).trans ral
      clear hb_
      go_wp2_with fail
      refine hK.out _ _ hv2 (fun _=>?_)
      clear hK
      try simp only [fM,fQ,fO,fP,fN,fR,fS,fV]
      refine ft (rs:=[5]) (by kernel_rfl) (by simp) ?_
      refine fX rfl (fun K hK=>?_) fY
      go_simp
      refine(HZ.out _).mono ?_
      rintro e v3 ⟨rfl,hb_⟩
      have hv3:=HT.out _ _ hv2 hb_
      have rv3:=(hb_.block _ (fW.1 rv2).1).trans rv2
      clear hb_
      go_wp2_with fail
      refine hK.out _ _ hv3 (fun _=>?_)
      clear hK
      try simp only [fM,fQ,fO,fP,fN,fR,fS,fV]
      refine ft (rs:=[6]) (by kernel_rfl) (by simp) ?_
      refine fX rfl (fun K hK=>?_) fY
      go_simp
      refine(HV.out _).mono ?_
      rintro e v4 ⟨rfl,hb_⟩
      have hv4:=HT.out _ _ hv3 hb_
      have rv4:=(hb_.block _ (fW.1 rv3).1).trans rv3
      clear hb_
      go_wp2_with fail
      refine hK.out _ _ hv4 (fun _=>?_)
      clear hK
      try simp only [fM,fQ,fO,fP,fN,fR,fS,fV]
      refine fm (i:=7) (v:=.tuple #[.agg #[fJ .i64 aev,.int .i64 afrm,.int .i64 atil,.bool alo],.bool c1]) rfl (by kernel_rfl) (by kernel_rfl) (by kernel_rfl) (fun _ _ _ h=>HP.out _ _ _ _ (by rfl) h) (.inl ⟨by rfl,fun w_ hS_=>by go_simp⟩) hv4 ?_
      try simp only [fM,fQ,fO,fP,fN,fR,fS,fV]
      refine fm (i:=8) (v:=.agg #[fJ .i64 aev,.int .i64 afrm,.int .i64 atil,.bool alo]) rfl (by kernel_rfl) (by kernel_rfl) (by kernel_rfl) (fun _ _ _ h=>HP.out _ _ _ _ (by rfl) h) (.inl ⟨by rfl,fun w_ hS_=>by go_simp⟩) hv4 ?_
      try simp only [fM,fQ,fO,fP,fN,fR,fS,fV]
      refine fm (i:=9) (v:=.bool c1) rfl (by kernel_rfl) (by kernel_rfl) (by kernel_rfl) (fun _ _ _ h=>HP.out _ _ _ _ (by rfl) h) (.inl ⟨by rfl,fun w_ hS_=>by go_simp⟩) hv4 ?_
      try simp only [fM,fQ,fO,fP,fN,fR,fS,fV]
      refine ft (rs:=[11]) (by kernel_rfl) (by simp) ?_
      refine fX rfl (fun K hK=>?_) fY
      rw [if_pos (by rfl)]
      refine fC 211 (.tmp 22) (.tmp 114) rfl (v1.heap.size) (fT [fJ .i64 aev,.int .i64 afrm,.int .i64 atil,.bool alo]) rfl rfl 211 _ rv4 zaH rfl (one4 _ _ _ _) ?_
      have hs9:=fD hv4 hg (fT [fJ .i64 aev,.int .i64 afrm,.int .i64 atil,.bool alo])
      have HZ9:=h_ (fB v4 (v1.heap.size) _ (fT [fJ .i64 aev,.int .i64 afrm,.int .i64 atil,.bool alo]) _ _ rv4)
      refine hK.out _ _ hs9 (fun _=>?_)
      clear hK
      try simp only [fM,fQ,fO,fP,fN,fR,fS,fV]
      refine fm (i:=12) (v:=.bool c1) rfl (by kernel_rfl) (by kernel_rfl) (by kernel_rfl) (fun _ _ _ h=>HP.out _ _ _ _ (by rfl) h) (.inl ⟨by rfl,fun w_ hS_=>by go_simp⟩) hs9 ?_
      try simp only [fM,fQ,fO,fP,fN,fR,fS,fV]
      refine fw (by kernel_rfl) ?_ _
      go_wp2_with fail
      go_meet
      exact⟨v1.heap.size,rfl,rfl,hg,hs9,HZ9.out⟩
  · skip
    go_simp
    have hal:fL w0.heap.size w0 (w0.drew.alloc (.cells #[.int .i64 0,.int .i64 0,.int .i64 0,.bool false] 211)):=hd0.alloc hd0.size _
    have ral:(w0.drew.alloc (.cells #[.int .i64 0,.int .i64 0,.int .i64 0,.bool false] 211)).heap[w0.drew.heap.size]? =some (.cells #[.int .i64 0,.int .i64 0,.int .i64 0,.bool false] 211 (0,0)):=fu _ _
    have hg:w0.heap.size≤w0.drew.heap.size:=hd0.size
    refine hK.out _ _ hal (fun _=>?_)
    clear hK
    try simp only [fM,fQ,fO,fP,fN,fR,fS,fV]
    refine ft (rs:=[1]) (by kernel_rfl) (by simp) ?_
    refine fX rfl (fun K hK=>?_) fY
    go_simp
    refine(HX.out _).mono ?_
    rintro e v1 ⟨rfl,hb_⟩
    have hv1:=HT.out _ _ hal hb_
    have rv1:=(hb_.block _ (fW.1 ral).1).trans ral
    clear hb_
    go_wp2_with fail
    refine hK.out _ _ hv1 (fun _=>?_)
    clear hK
    try simp only [fM,fQ,fO,fP,fN,fR,fS,fV]
    refine ft (rs:=[3]) (by kernel_rfl) (by simp) ?_
    refine fX rfl (fun K hK=>?_) fY
    go_simp
    refine(HY.out _).mono ?_
    rintro e v2 ⟨rfl,hb_⟩
    have hv2:=HT.out _ _ hv1 hb_
    have rv2:=(hb_.block _ (fW.1 rv1).1).trans rv1
    clear hb_
    go_wp2_with fail
    refine hK.out _ _ hv2 (fun _=>?_)
    clear hK
    try simp only [fM,fQ,fO,fP,fN,fR,fS,fV]
    refine ft (rs:=[5]) (by kernel_rfl) (by simp) ?_
    refine fX rfl (fun K hK=>?_) fY
    go_simp
    refine(HZ.out _).mono ?_
    rintro e v3 ⟨rfl,hb_⟩
    have hv3:=HT.out _ _ hv2 hb_
    have rv3:=(hb_.block _ (fW.1 rv2).1).trans rv2
    clear hb_
    go_wp2_with fail
    refine hK.out _ _ hv3 (fun _=>?_)
    clear hK
    try simp only [fM,fQ,fO,fP,fN,fR,fS,fV]
    refine ft (rs:=[6]) (by kernel_rfl) (by simp) ?_
    refine fX rfl (fun K hK=>?_) fY
    go_simp
    refine(HV.out _).mono ?_
    rintro e v4 ⟨rfl,hb_⟩
    have hv4:=HT.out _ _ hv3 hb_
    have rv4:=(hb_.block _ (fW.1 rv3).1).trans rv3
    clear hb_
    go_wp2_with fail
    refine hK.out _ _ hv4 (fun _=>?_)
    clear hK
    try simp only [fM,fQ,fO,fP,fN,fR,fS,fV]
    refine fm (i:=7) (v:=.tuple #[.agg #[fJ .i64 aev,.int .i64 afrm,.int .i64 atil,.bool alo],.bool c1]) rfl (by kernel_rfl) (by kernel_rfl) (by kernel_rfl) (fun _ _ _ h=>HP.out _ _ _ _ (by rfl) h) (.inl ⟨by rfl,fun w_ hS_=>by go_simp⟩) hv4 ?_
    try simp only [fM,fQ,fO,fP,fN,fR,fS,fV]
    refine fm (i:=8) (v:=.agg #[fJ .i64 aev,.int .i64 afrm,.int .i64 atil,.bool alo]) rfl (by kernel_rfl) (by kernel_rfl) (by kernel_rfl) (fun _ _ _ h=>HP.out _ _ _ _ (by rfl) h) (.inl ⟨by rfl,fun w_ hS_=>by go_simp⟩) hv4 ?_
    try simp only [fM,fQ,fO,fP,fN,fR,fS,fV]
    refine fm (i:=9) (v:=.bool c1) rfl (by kernel_rfl) (by kernel_rfl) (by kernel_rfl) (fun _ _ _ h=>HP.out _ _ _ _ (by rfl) h) (.inl ⟨by rfl,fun w_ hS_=>by go_simp⟩) hv4 ?_
    try simp only [fM,fQ,fO,fP,fN,fR,fS,fV]
    refine ft (rs:=[11]) (by kernel_rfl) (by simp) ?_
    refine fX rfl (fun K hK=>?_) fY
    rw [if_pos (by rfl)]
    refine fC 211 (.tmp 22) (.tmp 114) rfl (w0.drew.heap.size) (fT [fJ .i64 aev,.int .i64 afrm,.int .i64 atil,.bool alo]) rfl rfl 211 _ rv4 zaH rfl (one4 _ _ _ _) ?_
    have hs9:=fD hv4 hg (fT [fJ .i64 aev,.int .i64 afrm,.int .i64 atil,.bool alo])
    have HZ9:=h_ (fB v4 (w0.drew.heap.size) _ (fT [fJ .i64 aev,.int .i64 afrm,.int .i64 atil,.bool alo]) _ _ rv4)
    refine hK.out _ _ hs9 (fun _=>?_)
    clear hK
    try simp only [fM,fQ,fO,fP,fN,fR,fS,fV]
    refine fm (i:=12) (v:=.bool c1) rfl (by kernel_rfl) (by kernel_rfl) (by kernel_rfl) (fun _ _ _ h=>HP.out _ _ _ _ (by rfl) h) (.inl ⟨by rfl,fun w_ hS_=>by go_simp⟩) hs9 ?_
    try simp only [fM,fQ,fO,fP,fN,fR,fS,fV]
    refine fw (by kernel_rfl) ?_ _
    go_wp2_with fail
    go_meet
    exact⟨w0.drew.heap.size,rfl,rfl,hg,hs9,HZ9.out⟩
 case rest =>
  obtain⟨g2,rfl,rfl,hge,hbw,hrow⟩:=hcut
  have HS1:=h_ (HST.out.later hGS hbw)
  clear HST kx ky kz hd0 HV HX HY HZ hbw
  have fg:∀ w',Kept (fun b=>b=S+1+1+1+1) wc w'→∀ j,w'.cell? ⟨g2,j,none⟩=_:=fun w' q j=>fp _ _ j _ 211 (0,0) ((q.block _ (fW.1 hrow).1 (by have:=HLT.out;omega)).trans hrow)
  have hgo:g2≠S+1+1+1+1:=by have:=HLT.out;omega
  go_upto_region 21 with fail
  have hd1:fL wc.heap.size wc wc.drew:=(fL.refl _ _).drew
  have HS2:=h_ (HS1.out.drew hGS)
  refine fG (S:=fun w'=>Kept (fun b=>b=S+1+1+1+1) wc w') (by kernel_rfl) (Kept.of_below hd1) (fun _=>?_)
  try simp only [fM,fQ,fO,fP,fN,fR,fS,fV]
  refine fm (i:=0) (v:=.pointer (some ⟨g2,0,none⟩)) rfl (by kernel_rfl) (by kernel_rfl) (by kernel_rfl) (fun _ _ _ h=>HP.out _ _ _ _ (by rfl) h) (.inl ⟨by rfl,fun w_ hS_=>by go_simp⟩) (Kept.of_below hd1) ?_
  try simp only [fM,fQ,fO,fP,fN,fR,fS,fV]
  refine fm (i:=1) (v:=.int .i64 aev) rfl (by kernel_rfl) (by kernel_rfl) (by kernel_rfl) (fun _ _ _ h=>HP.out _ _ _ _ (by rfl) h) (.inl ⟨by rfl,fun w_ hS_=>by have q_:=fg _ hS_;go_simp⟩) (Kept.of_below hd1) ?_
  try simp only [fM,fQ,fO,fP,fN,fR,fS,fV]
  refine fm (i:=2) (v:=.pointer (some ⟨g2,1,none⟩)) rfl (by kernel_rfl) (by kernel_rfl) (by kernel_rfl) (fun _ _ _ h=>HP.out _ _ _ _ (by rfl) h) (.inl ⟨by rfl,fun w_ hS_=>by go_simp⟩) (Kept.of_below hd1) ?_
  try simp only [fM,fQ,fO,fP,fN,fR,fS,fV]
  refine fm (i:=3) (v:=.int .i64 afrm) rfl (by kernel_rfl) (by kernel_rfl) (by kernel_rfl) (fun _ _ _ h=>HP.out _ _ _ _ (by rfl) h) (.inl ⟨by rfl,fun w_ hS_=>by have q_:=fg _ hS_;go_simp⟩) (Kept.of_below hd1) ?_
  try simp only [fM,fQ,fO,fP,fN,fR,fS,fV]
  refine fm (i:=4) (v:=.pointer (some ⟨g2,2,none⟩)) rfl (by kernel_rfl) (by kernel_rfl) (by kernel_rfl) (fun _ _ _ h=>HP.out _ _ _ _ (by rfl) h) (.inl ⟨by rfl,fun w_ hS_=>by go_simp⟩) (Kept.of_below hd1) ?_
  try simp only [fM,fQ,fO,fP,fN,fR,fS,fV]
  refine fm (i:=5) (v:=.int .i64 atil) rfl (by kernel_rfl) (by kernel_rfl) (by kernel_rfl) (fun _ _ _ h=>HP.out _ _ _ _ (by rfl) h) (.inl ⟨by rfl,fun w_ hS_=>by have q_:=fg _ hS_;go_simp⟩) (Kept.of_below hd1) ?_
  try simp only [fM,fQ,fO,fP,fN,fR,fS,fV]
  refine fm (i:=6) (v:=.pointer (some ⟨g2,3,none⟩)) rfl (by kernel_rfl) (by kernel_rfl) (by kernel_rfl) (fun _ _ _ h=>HP.out _ _ _ _ (by rfl) h) (.inl ⟨by rfl,fun w_ hS_=>by go_simp⟩) (Kept.of_below hd1) ?_
  try simp only [fM,fQ,fO,fP,fN,fR,fS,fV]
  refine fm (i:=7) (v:=.bool alo) rfl (by kernel_rfl) (by kernel_rfl) (by kernel_rfl) (fun _ _ _ h=>HP.out _ _ _ _ (by rfl) h) (.inl ⟨by rfl,fun w_ hS_=>by have q_:=fg _ hS_;go_simp⟩) (Kept.of_below hd1) ?_
  try simp only [fM,fQ,fO,fP,fN,fR,fS,fV]
  refine fm (i:=8) (v:=.pointer (some ⟨S+1+1+1+1,1,none⟩)) rfl (by kernel_rfl) (by kernel_rfl) (by kernel_rfl) (fun _ _ _ h=>HP.out _ _ _ _ (by rfl) h) (.inl ⟨by rfl,fun w_ hS_=>by go_simp⟩) (Kept.of_below hd1) ?_
  try simp only [fM,fQ,fO,fP,fN,fR,fS,fV]
  refine ft (rs:=[9]) (by kernel_rfl) (by simp) ?_
  refine fX rfl (fun K hK=>?_) fY
  have z_:∀ j,wc.frozen? ⟨S+1+1+1+1,j,none⟩=false:=fun j=>by simp [fH,HS1.out.o]
  have c_:∀ j,wc.cell? ⟨S+1+1+1+1,j,none⟩=_:=fun j=>fp _ _ j _ 52 (0,0) HS1.out.o
  go_simp
  have HS3:=h_ (HS2.out.set hGS hS 1 (.int .i64 aev))
  have hk1:Kept (fun b=>b=S+1+1+1+1) wc (wc.drew.setCell ⟨S+1+1+1+1,1,none⟩ (.int .i64 aev)):=zgH (Kept.of_below hd1) _ _
  refine hK.out _ _ hk1 (fun _=>?_)
  clear hK z_ c_
  try simp only [fM,fQ,fO,fP,fN,fR,fS,fV]
  refine fm (i:=10) (v:=.pointer (some ⟨S+1+1+1+1,2,none⟩)) rfl (by kernel_rfl) (by kernel_rfl) (by kernel_rfl) (fun _ _ _ h=>HP.out _ _ _ _ (by rfl) h) (.inl ⟨by rfl,fun w_ hS_=>by go_simp⟩) hk1 ?_
  try simp only [fM,fQ,fO,fP,fN,fR,fS,fV]
  refine ft (rs:=[11]) (by kernel_rfl) (by simp) ?_
  refine fX rfl (fun K hK=>?_) fY
  have z_:∀ j,wc.frozen? ⟨S+1+1+1+1,j,none⟩=false:=fun j=>by simp [fH,HS1.out.o]
  have c_:∀ j,wc.cell? ⟨S+1+1+1+1,j,none⟩=_:=fun j=>fp _ _ j _ 52 (0,0) HS1.out.o
  go_simp
  have HS4:=h_ (HS3.out.set hGS hS 2 (.int .i64 afrm))
  have hk2:Kept (fun b=>b=S+1+1+1+1) wc ((wc.drew.setCell ⟨S+1+1+1+1,1,none⟩ (.int .i64 aev)).setCell ⟨S+1+1+1+1,2,none⟩ (.int .i64 afrm)):=zgH hk1 _ _
  refine hK.out _ _ hk2 (fun _=>?_)
  clear hK z_ c_
  try simp only [fM,fQ,fO,fP,fN,fR,fS,fV]
  refine fm (i:=12) (v:=.pointer (some ⟨S+1+1+1+1,3,none⟩)) rfl (by kernel_rfl) (by kernel_rfl) (by kernel_rfl) (fun _ _ _ h=>HP.out _ _ _ _ (by rfl) h) (.inl ⟨by rfl,fun w_ hS_=>by go_simp⟩) hk2 ?_
  try simp only [fM,fQ,fO,fP,fN,fR,fS,fV]
  refine ft (rs:=[13]) (by kernel_rfl) (by simp) ?_
  refine fX rfl (fun K hK=>?_) fY
  have z_:∀ j,wc.frozen? ⟨S+1+1+1+1,j,none⟩=false:=fun j=>by simp [fH,HS1.out.o]
  have c_:∀ j,wc.cell? ⟨S+1+1+1+1,j,none⟩=_:=fun j=>fp _ _ j _ 52 (0,0) HS1.out.o
  go_simp
  have HS5:=h_ (HS4.out.set hGS hS 3 (.int .i64 atil))
  have hk3:Kept (fun b=>b=S+1+1+1+1) wc (((wc.drew.setCell ⟨S+1+1+1+1,1,none⟩ (.int .i64 aev)).setCell ⟨S+1+1+1+1,2,none⟩ (.int .i64 afrm)).setCell ⟨S+1+1+1+1,3,none⟩ (.int .i64 atil)):=zgH hk2 _ _
  refine hK.out _ _ hk3 (fun _=>?_)
  clear hK z_ c_
  try simp only [fM,fQ,fO,fP,fN,fR,fS,fV]
  refine fm (i:=14) (v:=.pointer (some ⟨S+1+1+1+1,7,none⟩)) rfl (by kernel_rfl) (by kernel_rfl) (by kernel_rfl) (fun _ _ _ h=>HP.out _ _ _ _ (by rfl) h) (.inl ⟨by rfl,fun w_ hS_=>by go_simp⟩) hk3 ?_
  try simp only [fM,fQ,fO,fP,fN,fR,fS,fV]
  refine ft (rs:=[15]) (by kernel_rfl) (by simp) ?_
  refine fX rfl (fun K hK=>?_) fY
  have z_:∀ j,wc.frozen? ⟨S+1+1+1+1,j,none⟩=false:=fun j=>by simp [fH,HS1.out.o]
  have c_:∀ j,wc.cell? ⟨S+1+1+1+1,j,none⟩=_:=fun j=>fp _ _ j _ 52 (0,0) HS1.out.o
  go_simp
  have HS6:=h_ (HS5.out.set hGS hS 7 (.bool alo))
  have hk4:Kept (fun b=>b=S+1+1+1+1) wc ((((wc.drew.setCell ⟨S+1+1+1+1,1,none⟩ (.int .i64 aev)).setCell ⟨S+1+1+1+1,2,none⟩ (.int .i64 afrm)).setCell ⟨S+1+1+1+1,3,none⟩ (.int .i64 atil)).setCell ⟨S+1+1+1+1,7,none⟩ (.bool alo)):=zgH hk3 _ _
  refine hK.out _ _ hk4 (fun _=>?_)
  clear hK z_ c_
  try simp only [fM,fQ,fO,fP,fN,fR,fS,fV]
  refine fw (by kernel_rfl) ?_ _
  go_wp2_with fail
  have HT:=h_ (show CSt m1 B g G S id (#[fJ .i64 xid,.int .i64 xev,.int .i64 xfrm,.int .i64 xtil,.string xau,.string xtx,.bool xdn,.bool xlo]) (#[fJ .i64 yid,.int .i64 yev,.int .i64 yfrm,.int .i64 ytil,.string yau,.string ytx,.bool ydn,.bool ylo]) (#[fJ .i64 zid,.int .i64 zev,.int .i64 zfrm,.int .i64 ztil,.string zau,.string ztx,.bool zdn,.bool zlo]) (#[fJ .i64 xid,.int .i64 aev,.int .i64 afrm,.int .i64 atil,.string xau,.string xtx,.bool xdn,.bool alo]) (m1.cls) wr ((((wc.setCell ⟨S+1+1+1+1,1,none⟩ (.int .i64 aev)).setCell ⟨S+1+1+1+1,2,none⟩ (.int .i64 afrm)).setCell ⟨S+1+1+1+1,3,none⟩ (.int .i64 atil)).setCell ⟨S+1+1+1+1,7,none⟩ (.bool alo)).drew from((((HS1.out.set hGS hS 1 (.int .i64 aev)).set hGS hS 2 (.int .i64 afrm)).set hGS hS 3 (.int .i64 atil)).set hGS hS 7 (.bool alo)).drew hGS)
  clear fg hd1 hk1 hk2 hk3 hk4 HS1 HS2 HS3 HS4 HS5 HS6
  have HN:=h_ (HT.out.note hGS (fZ hB HT.out.size) (by omega) c1 aT)
  simp only [aT] at HN
  refine HN.out.mono ?_
  clear HN HT
  rintro e w1 ⟨rfl,hs_⟩
  have HA1:=h_ (show CSt m1 B g G S id (#[fJ .i64 xid,.int .i64 xev,.int .i64 xfrm,.int .i64 xtil,.string xau,.string xtx,.bool xdn,.bool xlo]) (#[fJ .i64 yid,.int .i64 yev,.int .i64 yfrm,.int .i64 ytil,.string yau,.string ytx,.bool ydn,.bool ylo]) (#[fJ .i64 zid,.int .i64 zev,.int .i64 zfrm,.int .i64 ztil,.string zau,.string ztx,.bool zdn,.bool zlo]) (#[fJ .i64 xid,.int .i64 aev,.int .i64 afrm,.int .i64 atil,.string xau,.string xtx,.bool xdn,.bool alo]) (m1.cls++clIf c1 ⟨4,id,ak,aT⟩) wr w1 from hs_)
  clear hs_
  have fx:∀ j,w1.cell? ⟨S+1,j,none⟩=_:=fun j=>fp _ _ j _ 52 (0,0) HA1.out.x
  have fy:∀ j,w1.cell? ⟨S+1+1,j,none⟩=_:=fun j=>fp _ _ j _ 52 (0,0) HA1.out.y
  have fz:∀ j,w1.cell? ⟨S+1+1+1,j,none⟩=_:=fun j=>fp _ _ j _ 52 (0,0) HA1.out.z
  have fo:∀ j,w1.cell? ⟨S+1+1+1+1,j,none⟩=_:=fun j=>fp _ _ j _ 52 (0,0) HA1.out.o
  have zo:∀ j,w1.frozen? ⟨S+1+1+1+1,j,none⟩=false:=fun j=>by simp [fH,HA1.out.o]
  go_wp2_with fail
  refine(HV2.out _).mono ?_
  rintro e w2 ⟨rfl,hb_⟩
  have HA2:=h_ (show CSt m1 B g G S id (#[fJ .i64 xid,.int .i64 xev,.int .i64 xfrm,.int .i64 xtil,.string xau,.string xtx,.bool xdn,.bool xlo]) (#[fJ .i64 yid,.int .i64 yev,.int .i64 yfrm,.int .i64 ytil,.string yau,.string ytx,.bool ydn,.bool ylo]) (#[fJ .i64 zid,.int .i64 zev,.int .i64 zfrm,.int .i64 ztil,.string zau,.string ztx,.bool zdn,.bool zlo]) (#[fJ .i64 xid,.int .i64 aev,.int .i64 afrm,.int .i64 atil,.string xau,.string xtx,.bool xdn,.bool alo]) (m1.cls++clIf c1 ⟨4,id,ak,aT⟩) wr w2 from HA1.out.later hGS hb_)
  clear hb_ HA1 fx fy fz fo zo
  have fx:∀ j,w2.cell? ⟨S+1,j,none⟩=_:=fun j=>fp _ _ j _ 52 (0,0) HA2.out.x
  have fy:∀ j,w2.cell? ⟨S+1+1,j,none⟩=_:=fun j=>fp _ _ j _ 52 (0,0) HA2.out.y
  have fz:∀ j,w2.cell? ⟨S+1+1+1,j,none⟩=_:=fun j=>fp _ _ j _ 52 (0,0) HA2.out.z
  have fo:∀ j,w2.cell? ⟨S+1+1+1+1,j,none⟩=_:=fun j=>fp _ _ j _ 52 (0,0) HA2.out.o
  have zo:∀ j,w2.frozen? ⟨S+1+1+1+1,j,none⟩=false:=fun j=>by simp [fH,HA2.out.o]
  go_wp2_with fail
  have HT:=h_ (show CSt m1 B g G S id (#[fJ .i64 xid,.int .i64 xev,.int .i64 xfrm,.int .i64 xtil,.string xau,.string xtx,.bool xdn,.bool xlo]) (#[fJ .i64 yid,.int .i64 yev,.int .i64 yfrm,.int .i64 ytil,.string yau,.string ytx,.bool ydn,.bool ylo]) (#[fJ .i64 zid,.int .i64 zev,.int .i64 zfrm,.int .i64 ztil,.string zau,.string ztx,.bool zdn,.bool zlo]) (#[fJ .i64 xid,.int .i64 aev,.int .i64 afrm,.int .i64 atil,.string b2,.string xtx,.bool xdn,.bool alo]) (m1.cls++clIf c1 ⟨4,id,ak,aT⟩) wr (w2.setCell ⟨S+1+1+1+1,4,none⟩ (.string b2)) from(HA2.out.set hGS hS 4 (.string b2)))
  have HN:=h_ (HT.out.note hGS (fZ hB HT.out.size) (by simp only [fU];have:=zae c1 ⟨4,id,ak,aT⟩;omega) c2 bZ)
  simp only [bZ] at HN
  refine HN.out.mono ?_
  clear HN HT HA2 fx fy fz fo zo
  rintro e w3 ⟨rfl,hs_⟩
  have HA3:=h_ (show CSt m1 B g G S id (#[fJ .i64 xid,.int .i64 xev,.int .i64 xfrm,.int .i64 xtil,.string xau,.string xtx,.bool xdn,.bool xlo]) (#[fJ .i64 yid,.int .i64 yev,.int .i64 yfrm,.int .i64 ytil,.string yau,.string ytx,.bool ydn,.bool ylo]) (#[fJ .i64 zid,.int .i64 zev,.int .i64 zfrm,.int .i64 ztil,.string zau,.string ztx,.bool zdn,.bool zlo]) (#[fJ .i64 xid,.int .i64 aev,.int .i64 afrm,.int .i64 atil,.string b2,.string xtx,.bool xdn,.bool alo]) (m1.cls++clIf c1 ⟨4,id,ak,aT⟩++clIf c2 ⟨4,id,ak,bZ⟩) wr w3 from hs_)
  clear hs_
  have fx:∀ j,w3.cell? ⟨S+1,j,none⟩=_:=fun j=>fp _ _ j _ 52 (0,0) HA3.out.x
  have fy:∀ j,w3.cell? ⟨S+1+1,j,none⟩=_:=fun j=>fp _ _ j _ 52 (0,0) HA3.out.y
  have fz:∀ j,w3.cell? ⟨S+1+1+1,j,none⟩=_:=fun j=>fp _ _ j _ 52 (0,0) HA3.out.z
  have fo:∀ j,w3.cell? ⟨S+1+1+1+1,j,none⟩=_:=fun j=>fp _ _ j _ 52 (0,0) HA3.out.o
  have zo:∀ j,w3.frozen? ⟨S+1+1+1+1,j,none⟩=false:=fun j=>by simp [fH,HA3.out.o]
  go_wp2_with fail
  refine(HV3.out _).mono ?_
  rintro e w4 ⟨rfl,hb_⟩
  have HA4:=h_ (show CSt m1 B g G S id (#[fJ .i64 xid,.int .i64 xev,.int .i64 xfrm,.int .i64 xtil,.string xau,.string xtx,.bool xdn,.bool xlo]) (#[fJ .i64 yid,.int .i64 yev,.int .i64 yfrm,.int .i64 ytil,.string yau,.string ytx,.bool ydn,.bool ylo]) (#[fJ .i64 zid,.int .i64 zev,.int .i64 zfrm,.int .i64 ztil,.string zau,.string ztx,.bool zdn,.bool zlo]) (#[fJ .i64 xid,.int .i64 aev,.int .i64 afrm,.int .i64 atil,.string b2,.string xtx,.bool xdn,.bool alo]) (m1.cls++clIf c1 ⟨4,id,ak,aT⟩++clIf c2 ⟨4,id,ak,bZ⟩) wr w4 from HA3.out.later hGS hb_)
  clear hb_ HA3 fx fy fz fo zo
  have fx:∀ j,w4.cell? ⟨S+1,j,none⟩=_:=fun j=>fp _ _ j _ 52 (0,0) HA4.out.x
  have fy:∀ j,w4.cell? ⟨S+1+1,j,none⟩=_:=fun j=>fp _ _ j _ 52 (0,0) HA4.out.y
  have fz:∀ j,w4.cell? ⟨S+1+1+1,j,none⟩=_:=fun j=>fp _ _ j _ 52 (0,0) HA4.out.z
  have fo:∀ j,w4.cell? ⟨S+1+1+1+1,j,none⟩=_:=fun j=>fp _ _ j _ 52 (0,0) HA4.out.o
  have zo:∀ j,w4.frozen? ⟨S+1+1+1+1,j,none⟩=false:=fun j=>by simp [fH,HA4.out.o]
  go_wp2_with fail
  have HT:=h_ (show CSt m1 B g G S id (#[fJ .i64 xid,.int .i64 xev,.int .i64 xfrm,.int .i64 xtil,.string xau,.string xtx,.bool xdn,.bool xlo]) (#[fJ .i64 yid,.int .i64 yev,.int .i64 yfrm,.int .i64 ytil,.string yau,.string ytx,.bool ydn,.bool ylo]) (#[fJ .i64 zid,.int .i64 zev,.int .i64 zfrm,.int .i64 ztil,.string zau,.string ztx,.bool zdn,.bool zlo]) (#[fJ .i64 xid,.int .i64 aev,.int .i64 afrm,.int .i64 atil,.string b2,.string b3,.bool xdn,.bool alo]) (m1.cls++clIf c1 ⟨4,id,ak,aT⟩++clIf c2 ⟨4,id,ak,bZ⟩) wr (w4.setCell ⟨S+1+1+1+1,5,none⟩ (.string b3)) from(HA4.out.set hGS hS 5 (.string b3)))
  have HN:=h_ (HT.out.note hGS (fZ hB HT.out.size) (by simp only [fU];have:=zae c1 ⟨4,id,ak,aT⟩;have:=zae c2 ⟨4,id,ak,bZ⟩;omega) c3 zdl)
  simp only [zdl] at HN
  refine HN.out.mono ?_
  clear HN HT HA4 fx fy fz fo zo
  rintro e w5 ⟨rfl,hs_⟩
  have HA5:=h_ (show CSt m1 B g G S id (#[fJ .i64 xid,.int .i64 xev,.int .i64 xfrm,.int .i64 xtil,.string xau,.string xtx,.bool xdn,.bool xlo]) (#[fJ .i64 yid,.int .i64 yev,.int .i64 yfrm,.int .i64 ytil,.string yau,.string ytx,.bool ydn,.bool ylo]) (#[fJ .i64 zid,.int .i64 zev,.int .i64 zfrm,.int .i64 ztil,.string zau,.string ztx,.bool zdn,.bool zlo]) (#[fJ .i64 xid,.int .i64 aev,.int .i64 afrm,.int .i64 atil,.string b2,.string b3,.bool xdn,.bool alo]) (m1.cls++clIf c1 ⟨4,id,ak,aT⟩++clIf c2 ⟨4,id,ak,bZ⟩++clIf c3 ⟨4,id,ak,zdl⟩) wr w5 from hs_)
  clear hs_
  have fx:∀ j,w5.cell? ⟨S+1,j,none⟩=_:=fun j=>fp _ _ j _ 52 (0,0) HA5.out.x
  have fy:∀ j,w5.cell? ⟨S+1+1,j,none⟩=_:=fun j=>fp _ _ j _ 52 (0,0) HA5.out.y
  have fz:∀ j,w5.cell? ⟨S+1+1+1,j,none⟩=_:=fun j=>fp _ _ j _ 52 (0,0) HA5.out.z
  have fo:∀ j,w5.cell? ⟨S+1+1+1+1,j,none⟩=_:=fun j=>fp _ _ j _ 52 (0,0) HA5.out.o
  have zo:∀ j,w5.frozen? ⟨S+1+1+1+1,j,none⟩=false:=fun j=>by simp [fH,HA5.out.o]
  go_wp2_with fail
  refine(HV4.out _).mono ?_
  rintro e w6 ⟨rfl,hb_⟩
  have HA6:=h_ (show CSt m1 B g G S id (#[fJ .i64 xid,.int .i64 xev,.int .i64 xfrm,.int .i64 xtil,.string xau,.string xtx,.bool xdn,.bool xlo]) (#[fJ .i64 yid,.int .i64 yev,.int .i64 yfrm,.int .i64 ytil,.string yau,.string ytx,.bool ydn,.bool ylo]) (#[fJ .i64 zid,.int .i64 zev,.int .i64 zfrm,.int .i64 ztil,.string zau,.string ztx,.bool zdn,.bool zlo]) (#[fJ .i64 xid,.int .i64 aev,.int .i64 afrm,.int .i64 atil,.string b2,.string b3,.bool xdn,.bool alo]) (m1.cls++clIf c1 ⟨4,id,ak,aT⟩++clIf c2 ⟨4,id,ak,bZ⟩++clIf c3 ⟨4,id,ak,zdl⟩) wr w6 from HA5.out.later hGS hb_)
  clear hb_ HA5 fx fy fz fo zo
  have fx:∀ j,w6.cell? ⟨S+1,j,none⟩=_:=fun j=>fp _ _ j _ 52 (0,0) HA6.out.x
  have fy:∀ j,w6.cell? ⟨S+1+1,j,none⟩=_:=fun j=>fp _ _ j _ 52 (0,0) HA6.out.y
  have fz:∀ j,w6.cell? ⟨S+1+1+1,j,none⟩=_:=fun j=>fp _ _ j _ 52 (0,0) HA6.out.z
  have fo:∀ j,w6.cell? ⟨S+1+1+1+1,j,none⟩=_:=fun j=>fp _ _ j _ 52 (0,0) HA6.out.o
  have zo:∀ j,w6.frozen? ⟨S+1+1+1+1,j,none⟩=false:=fun j=>by simp [fH,HA6.out.o]
  go_wp2_with fail
  have HT:=h_ (show CSt m1 B g G S id (#[fJ .i64 xid,.int .i64 xev,.int .i64 xfrm,.int .i64 xtil,.string xau,.string xtx,.bool xdn,.bool xlo]) (#[fJ .i64 yid,.int .i64 yev,.int .i64 yfrm,.int .i64 ytil,.string yau,.string ytx,.bool ydn,.bool ylo]) (#[fJ .i64 zid,.int .i64 zev,.int .i64 zfrm,.int .i64 ztil,.string zau,.string ztx,.bool zdn,.bool zlo]) (#[fJ .i64 xid,.int .i64 aev,.int .i64 afrm,.int .i64 atil,.string b2,.string b3,.bool b4,.bool alo]) (m1.cls++clIf c1 ⟨4,id,ak,aT⟩++clIf c2 ⟨4,id,ak,bZ⟩++clIf c3 ⟨4,id,ak,zdl⟩) wr (w6.setCell ⟨S+1+1+1+1,6,none⟩ (.bool b4)) from(HA6.out.set hGS hS 6 (.bool b4)))
  have HN:=h_ (HT.out.note hGS (fZ hB HT.out.size) (by simp only [fU];have:=zae c1 ⟨4,id,ak,aT⟩;have:=zae c2 ⟨4,id,ak,bZ⟩;have:=zae c3 ⟨4,id,ak,zdl⟩;omega) c4 zhI)
  simp only [zhI] at HN
  refine HN.out.mono ?_
  clear HN HT HA6 fx fy fz fo zo
  rintro e w7 ⟨rfl,hs_⟩
  have HA7:=h_ (show CSt m1 B g G S id (#[fJ .i64 xid,.int .i64 xev,.int .i64 xfrm,.int .i64 xtil,.string xau,.string xtx,.bool xdn,.bool xlo]) (#[fJ .i64 yid,.int .i64 yev,.int .i64 yfrm,.int .i64 ytil,.string yau,.string ytx,.bool ydn,.bool ylo]) (#[fJ .i64 zid,.int .i64 zev,.int .i64 zfrm,.int .i64 ztil,.string zau,.string ztx,.bool zdn,.bool zlo]) (#[fJ .i64 xid,.int .i64 aev,.int .i64 afrm,.int .i64 atil,.string b2,.string b3,.bool b4,.bool alo]) (m1.cls++clIf c1 ⟨4,id,ak,aT⟩++clIf c2 ⟨4,id,ak,bZ⟩++clIf c3 ⟨4,id,ak,zdl⟩++clIf c4 ⟨4,id,ak,zhI⟩) wr w7 from hs_)
  clear hs_
  go_wp2_with fail
  skip
  refine HFIN.out _ _ _ _ _ _ _ _ _ _ _ _ _ _ _ _ _ _ _ _ _ _ _ _ _ _ _ _ _ _ _ _ _ _ _ _ _ _ _ _ _ _ _ _ _ _ _ _ _ _ _ _ _ _ _ _ _ _ _ _ _ _ _ _ _ _ _ _ _ _ ?_
  have:=HA7.out
  simpa only [List.append_assoc] using this
end Go.Proofs.YtnlnmbcaongehaaGreatDoor
