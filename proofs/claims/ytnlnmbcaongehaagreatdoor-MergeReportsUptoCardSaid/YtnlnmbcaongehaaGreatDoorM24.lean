/- merge.comments: the switch of a round. (printed by gen_mgcmswitch.py) merge.comments: the comment of a round is appended. (printed by gen_mgcmpush.py) -/
import Derived.Test.YtnlnmbcaongehaaGreatDoorM23
set_option linter.unusedVariables false
set_option linter.unusedSimpArgs false
set_option maxRecDepth 100000
set_option maxHeartbeats 12800000
open Go.Lib renaming hid→h_
open Go renaming cell_of_row→fm,World→fp,wp_cond_false→ft,wpList_store_row→fu,Value→fw
open Go.RowKit renaming Below→fB
open Array renaming getElem?_eq_some_iff→fC
open Go.Value renaming int→fD
open Go.World renaming cell?_alloc_lt→fE
namespace Go.Proofs.YtnlnmbcaongehaaGreatDoor
open Go.RowKit
theorem zjn (x y:(Int × Int × Int × Bool))(w:fp):(binOp .neq 211 (.agg (aD x)) (.agg (aD y))).run Tryz.prog w=.ok (.bool (!(anc4 x y))) w:=by
 obtain⟨x0,x1,x2,x3⟩:=x
 obtain⟨y0,y1,y2,y3⟩:=y
 simp [go_sem,aD,anc4]
 repeat' split
 all_goals simp_all
theorem zkQ (m1:Mg)(B g G S b5 b6 b7:Nat)(id:Int)(x y z:Cm)(A C D Bt:Bool)(wr w0:fp)(hst:CSt m1 B g G S id x.enc.toArray y.enc.toArray z.enc.toArray x.enc.toArray m1.cls wr w0)(hBt:Bt=(!A&&C&&D&&!(anc4 (en y) (en z))))(Q:Exit→Act→fp→Prop)(hP:∀ ch a a' w,a'.defers=a.defers→Q (.panic ch) a w→Q (.panic ch) a' w)(K:Act→fp→Prop)(s0 s1 s2 s3 s8 s9 s10 s11 s12 s22 s23 s24 s25 s26 s27 s28 s29 s30 s31 s32 s33 s34 s35 s36 s37 s38 s39 s40 s41 s42 s43 s44 s45 s46 s47 s48 s49 s50 s51 s52 s53 s54 s55 s56 s57 s58 s59 s60 s61 s62 s63 s64 s65 s66 s67 s68 s69 s70 s71 s72 s73 s74 s75 s76 s77 s78 s79 s80 s81 s82 s83 s84 s85 s86 s87 s88 s89 s90 s91 s92 s93 s94 s95 s96 s97 s98 s99 s100 s101 s102 s103 s104 s105 s106 s107 s108 s109 s110 s111 s112 s113 s114 s115 s116 s117 s118 s119 s120 s121 s122 s123 s124 s125 s126 s127 s128 s129 s130 s131 s132 s133 s134 s135 s136 s137 s138 s139 s140 s141 s142 s143 s144 s145 s146 s147 s148 s149 s150 s151 s152 s153 s154 s155 s156 s157 s158 s159 s160 s161 s162 s163 s164 s165 s166 s167 s168 s169 s170 s171 s172 s173 s174 s175 s176 s177 s178 s179 s180 s181 s182 s183 s184 s185 s186 s187 s188 s189 s190 s191 s192 s193 s194 s195 s196 s197 s198 s199 s200 s201 s202 s203 s204 s205 s206 s207 s208 s209 s210 s211 s212 s213 s214 s215 s216 s217:fw)
 (hK:∀ (u69 u70 u71 u72 u73 u74 u75 u76 u77 u78 u79 u80 u81 u82 u83:fw) (wc:fp),fB w0.heap.size w0 wc→K { tmps:=#[s0,s1,s2,s3,.pointer (some ⟨G,0,none⟩),.pointer (some ⟨b5,0,none⟩),.pointer (some ⟨b6,0,none⟩),.pointer (some ⟨b7,0,none⟩),s8,s9,s10,s11,s12,.pointer (some ⟨S,0,none⟩),.pointer (some ⟨S+1,0,none⟩),.bool A,.pointer (some ⟨S+1+1,0,none⟩),.bool C,.pointer (some ⟨S+1+1+1,0,none⟩),.bool D,.func (.func 141) #[] #[.pointer (some ⟨G,0,none⟩),.pointer (some ⟨S,0,none⟩)],.pointer (some ⟨S+1+1+1+1,0,none⟩),s22,s23,s24,s25,s26,s27,s28,s29,s30,s31,s32,s33,s34,s35,s36,s37,s38,s39,s40,s41,s42,s43,s44,s45,s46,s47,s48,s49,s50,s51,s52,s53,s54,s55,s56,s57,s58,s59,s60,s61,s62,s63,s64,s65,s66,s67,.bool Bt,u69,u70,u71,u72,u73,u74,u75,u76,u77,u78,u79,u80,u81,u82,u83,s84,s85,s86,s87,s88,s89,s90,s91,s92,s93,s94,s95,s96,s97,s98,s99,s100,s101,s102,s103,s104,s105,s106,s107,s108,s109,s110,s111,s112,s113,s114,s115,s116,s117,s118,s119,s120,s121,s122,s123,s124,s125,s126,s127,s128,s129,s130,s131,s132,s133,s134,s135,s136,s137,s138,s139,s140,s141,s142,s143,s144,s145,s146,s147,s148,s149,s150,s151,s152,s153,s154,s155,s156,s157,s158,s159,s160,s161,s162,s163,s164,s165,s166,s167,s168,s169,s170,s171,s172,s173,s174,s175,s176,s177,s178,s179,s180,s181,s182,s183,s184,s185,s186,s187,s188,s189,s190,s191,s192,s193,s194,s195,s196,s197,s198,s199,s200,s201,s202,s203,s204,s205,s206,s207,s208,s209,s210,s211,s212,s213,s214,s215,s216,s217],defers:=[] } wc) :
 Code.wp Tryz.prog ((zeq 11 (Tryz.f81.body.getD .skip)).getD .skip) (Exit.then K Q) { tmps:=#[s0,s1,s2,s3,.pointer (some ⟨G,0,none⟩),.pointer (some ⟨b5,0,none⟩),.pointer (some ⟨b6,0,none⟩),.pointer (some ⟨b7,0,none⟩),s8,s9,s10,s11,s12,.pointer (some ⟨S,0,none⟩),.pointer (some ⟨S+1,0,none⟩),.bool A,.pointer (some ⟨S+1+1,0,none⟩),.bool C,.pointer (some ⟨S+1+1+1,0,none⟩),.bool D,.func (.func 141) #[] #[.pointer (some ⟨G,0,none⟩),.pointer (some ⟨S,0,none⟩)],.pointer (some ⟨S+1+1+1+1,0,none⟩),s22,s23,s24,s25,s26,s27,s28,s29,s30,s31,s32,s33,s34,s35,s36,s37,s38,s39,s40,s41,s42,s43,s44,s45,s46,s47,s48,s49,s50,s51,s52,s53,s54,s55,s56,s57,s58,s59,s60,s61,s62,s63,s64,s65,s66,s67,s68,s69,s70,s71,s72,s73,s74,s75,s76,s77,s78,s79,s80,s81,s82,s83,s84,s85,s86,s87,s88,s89,s90,s91,s92,s93,s94,s95,s96,s97,s98,s99,s100,s101,s102,s103,s104,s105,s106,s107,s108,s109,s110,s111,s112,s113,s114,s115,s116,s117,s118,s119,s120,s121,s122,s123,s124,s125,s126,s127,s128,s129,s130,s131,s132,s133,s134,s135,s136,s137,s138,s139,s140,s141,s142,s143,s144,s145,s146,s147,s148,s149,s150,s151,s152,s153,s154,s155,s156,s157,s158,s159,s160,s161,s162,s163,s164,s165,s166,s167,s168,s169,s170,s171,s172,s173,s174,s175,s176,s177,s178,s179,s180,s181,s182,s183,s184,s185,s186,s187,s188,s189,s190,s191,s192,s193,s194,s195,s196,s197,s198,s199,s200,s201,s202,s203,s204,s205,s206,s207,s208,s209,s210,s211,s212,s213,s214,s215,s216,s217],defers:=[] } w0:=by
 have HK:=h_ hK
 have HST:=h_ hst
 have HP:=h_ hP
 have hbN:=h_ (fun nq=>Go.below_drewN (fB.refl w0.heap.size w0) nq)
 clear hK hst hP
 generalize hKQ:Exit.then K Q=KQ at *
 conv=>arg 2;whnf
 cases A with
 | true =>
   obtain rfl:Bt=false:=by rw [hBt];rfl
   clear hBt
   go_wp2_with fail
   go_quiet (fail)
   go_wp2_with fail
   subst hKQ
   exact HK.out _ _ _ _ _ _ _ _ _ _ _ _ _ _ _ _ (hbN.out _)
 | false =>
   cases C with
   | false =>
     obtain rfl:Bt=false:=by rw [hBt];rfl
     clear hBt
     go_wp2_with fail
     go_quiet (fail)
     go_wp2_with fail
     subst hKQ
     exact HK.out _ _ _ _ _ _ _ _ _ _ _ _ _ _ _ _ (hbN.out _)
   | true =>
     cases D with
     | false =>
       obtain rfl:Bt=false:=by rw [hBt];rfl
       clear hBt
       go_wp2_with fail
       go_quiet (fail)
       go_wp2_with fail
       subst hKQ
       exact HK.out _ _ _ _ _ _ _ _ _ _ _ _ _ _ _ _ (hbN.out _)
     | true =>
       generalize hAN:anc4 (en y) (en z)=AN at *
       obtain rfl:Bt=!AN:=by rw [hBt];simp
       have HC1:=h_ (fun(w':fp) (q:fB w0.heap.size w0 w')=>bJ y w')
       have HC2:=h_ (fun(w':fp) (q:fB w0.heap.size w0 w')=>bJ z w')
       have hneq:∀ w',(binOp .neq 211 (.agg (aD (en y))) (.agg (aD (en z)))).run Tryz.prog w'=.ok (.bool (!AN)) w':=fun w'=>by rw [zjn,hAN]
       obtain⟨yid,yev,yfrm,ytil,yau,ytx,ydn,ylo⟩:=y
       obtain⟨zid,zev,zfrm,ztil,zau,ztx,zdn,zlo⟩:=z
       simp only [Cm.enc] at HC1 HC2 HST
       simp only [en,aD] at HC1 HC2 hneq
       have hbd:fB w0.heap.size w0 w0.drew:=(fB.refl _ _).drew
       have hl7:S+4<w0.heap.size:=HST.out.lt
       have d2:∀ w',fB w0.heap.size w0 w'→∀ j,w'.cell? ⟨S+1+1,j,none⟩=_:=fun w' q j=>fm _ _ j _ 52 (0,0) ((q.block _ (by omega)).trans HST.out.y)
       have d3:∀ w',fB w0.heap.size w0 w'→∀ j,w'.cell? ⟨S+1+1+1,j,none⟩=_:=fun w' q j=>fm _ _ j _ 52 (0,0) ((q.block _ (by omega)).trans HST.out.z)
       have HT7:=h_ (fun(w2 w3:fp) (q:fB w0.heap.size w0 w2) (q3:fB w2.heap.size w2 w3)=>(q.trans (q3.mono q.size):fB w0.heap.size w0 w3))
       clear hBt HST hAN
       go_wp2_with fail
       go_region_held3 (fun w'=>fB w0.heap.size w0 w') (repeat (first|with_reducible assumption|with_reducible exact hbd)) (first
        | (go_at_call 142;(with_reducible refine(HC1.out _ (by first|with_reducible assumption|with_reducible exact hbd)).mono ?_);rintro e v1 ⟨rfl,hv1⟩;have hcv1:=HT7.out _ _ (by first|with_reducible assumption|with_reducible exact hbd) hv1;clear hv1)
        | (go_at_call 142;(with_reducible refine(HC2.out _ (by first|with_reducible assumption|with_reducible exact hbd)).mono ?_);rintro e v2 ⟨rfl,hv2⟩;have hcv2:=HT7.out _ _ (by first|with_reducible assumption|with_reducible exact hbd) hv2;clear hv2))
       all_goals
        go_wp2_with fail
        subst hKQ
        exact HK.out _ _ _ _ _ _ _ _ _ _ _ _ _ _ _ _ (by assumption)
theorem ziY (m1:Mg)(B g G S b5 b6 b7 b5e b6e b7e c5 c6 c7:Nat)(id:Int)(x y z pn nn rn:Cm)(A C D:Bool)(o:Option (Cm × List ByteArray))(wr w0:fp)(hGS:G<S)(hS:wr.heap.size≤S)(hB:B≤S)(hl:m1.cls.length≤60000)(hst:CSt m1 B g G S id x.enc.toArray y.enc.toArray z.enc.toArray x.enc.toArray m1.cls wr w0)
 (h5:w0.heap[b5]? =some (.cells #[.map (some b5e),.map (some c5)] 148 (0,0))) (h6:w0.heap[b6]? =some (.cells #[.map (some b6e),.map (some c6)] 148 (0,0))) (h7:w0.heap[b7]? =some (.cells #[.map (some b7e),.map (some c7)] 148 (0,0)))
 (l5:∀ w',fB w0.heap.size w0 w'→(Instr.lookup 146 (.map (some c5)) (.int .i64 id) false).run Tryz.prog w'=.ok (.agg pn.enc.toArray) w') (l6:∀ w',fB w0.heap.size w0 w'→(Instr.lookup 146 (.map (some c6)) (.int .i64 id) false).run Tryz.prog w'=.ok (.agg nn.enc.toArray) w') (l7:∀ w',fB w0.heap.size w0 w'→(Instr.lookup 146 (.map (some c7)) (.int .i64 id) false).run Tryz.prog w'=.ok (.agg rn.enc.toArray) w')
 (htz:D=false→z=bG) (ho:o=eI (some pn) (some nn) (some rn) (if A=true then some x else none) (if C=true then some y else none) (if D=true then some z else none)) (Q:Exit→Act→fp→Prop) (hP:∀ ch a a' w,a'.defers=a.defers→Q (.panic ch) a w→Q (.panic ch) a' w) (s0 s1 s2 s3 s8 s9 s10 s11 s12 s22 s23 s24 s25 s26 s27 s28 s29 s30 s31 s32 s33 s34 s35 s36 s37 s38 s39 s40 s41 s42 s43 s44 s45 s46 s47 s48 s49 s50 s51 s52 s53 s54 s55 s56 s57 s58 s59 s60 s61 s62 s63 s64 s65 s66 s67 s68 s69 s70 s71 s72 s73 s74 s75 s76 s77 s78 s79 s80 s81 s82 s83 s84 s85 s86 s87 s88 s89 s90 s91 s92 s93 s94 s95 s96 s97 s98 s99 s100 s101 s102 s103 s104 s105 s106 s107 s108 s109 s110 s111 s112 s113 s114 s115 s116 s117 s118 s119 s120 s121 s122 s123 s124 s125 s126 s127 s128 s129 s130 s131 s132 s133 s134 s135 s136 s137 s138 s139 s140 s141 s142 s143 s144 s145 s146 s147 s148 s149 s150 s151 s152 s153 s154 s155 s156 s157 s158 s159 s160 s161 s162 s163 s164 s165 s166 s167 s168 s169 s170 s171 s172 s173 s174 s175 s176 s177 s178 s179 s180 s181 s182 s183 s184 s185 s186 s187 s188 s189 s190 s191 s192 s193 s194 s195 s196 s197 s198 s199 s200 s201 s202 s203 s204 s205 s206 s207 s208 s209 s210 s211 s212 s213 s214 s215 s216 s217:fw)
 (hfin:∀ (c:Cm) (fs:List ByteArray),o=some (c,fs)→∀ (u22 u23 u68 u69 u70 u71 u72 u73 u74 u75 u76 u77 u78 u79 u80 u81 u82 u83 u84 u85 u86 u87 u88 u89 u90 u91 u92 u93 u94 u95 u96 u97 u98 u99 u100 u101 u102 u103 u104 u105 u106 u107 u108 u109 u110 u111 u112 u113 u114 u115 u116 u117 u118 u119 u120 u121 u122 u123 u124 u125 u126 u127 u128 u129 u130 u131 u132 u133 u134 u135 u136 u137 u138 u139 u140 u141 u142 u143 u144 u145 u146 u147 u148 u149 u150 u151 u152 u153 u154 u155 u156 u157 u158 u159 u160 u161 u162 u163 u164 u165 u166 u167 u168 u169 u170 u171 u172 u173 u174 u175 u176 u177 u178 u179 u180 u181 u182 u183 u184 u185 u186 u187 u188 u189 u190 u191 u192 u193 u194 u195 u196 u197 u198 u199 u200 u201 u202 u203 u204:fw) (wx:fp),CSt m1 B g G S id x.enc.toArray y.enc.toArray z.enc.toArray c.enc.toArray (m1.cls++cX id fs) wr wx→Q .normal { tmps:=#[s0,s1,s2,s3,.pointer (some ⟨G,0,none⟩),.pointer (some ⟨b5,0,none⟩),.pointer (some ⟨b6,0,none⟩),.pointer (some ⟨b7,0,none⟩),s8,s9,s10,s11,s12,.pointer (some ⟨S,0,none⟩),.pointer (some ⟨S+1,0,none⟩),.bool A,.pointer (some ⟨S+1+1,0,none⟩),.bool C,.pointer (some ⟨S+1+1+1,0,none⟩),.bool D,.func (.func 141) #[] #[.pointer (some ⟨G,0,none⟩),.pointer (some ⟨S,0,none⟩)],.pointer (some ⟨S+1+1+1+1,0,none⟩),u22,u23,s24,s25,s26,s27,s28,s29,s30,s31,s32,s33,s34,s35,s36,s37,s38,s39,s40,s41,s42,s43,s44,s45,s46,s47,s48,s49,s50,s51,s52,s53,s54,s55,s56,s57,s58,s59,s60,s61,s62,s63,s64,s65,s66,s67,u68,u69,u70,u71,u72,u73,u74,u75,u76,u77,u78,u79,u80,u81,u82,u83,u84,u85,u86,u87,u88,u89,u90,u91,u92,u93,u94,u95,u96,u97,u98,u99,u100,u101,u102,u103,u104,u105,u106,u107,u108,u109,u110,u111,u112,u113,u114,u115,u116,u117,u118,u119,u120,u121,u122,u123,u124,u125,u126,u127,u128,u129,u130,u131,u132,u133,u134,u135,u136,u137,u138,u139,u140,u141,u142,u143,u144,u145,u146,u147,u148,u149,u150,u151,u152,u153,u154,u155,u156,u157,u158,u159,u160,u161,u162,u163,u164,u165,u166,u167,u168,u169,u170,u171,u172,u173,u174,u175,u176,u177,u178,u179,u180,u181,u182,u183,u184,u185,u186,u187,u188,u189,u190,u191,u192,u193,u194,u195,u196,u197,u198,u199,u200,u201,u202,u203,u204,s205,s206,s207,s208,s209,s210,s211,s212,s213,s214,s215,s216,s217],defers:=[] } wx)
 (hnone:o=none→∀ (u22 u23 u68 u69 u70 u71 u72 u73 u74 u75 u76 u77 u78 u79 u80 u81 u82 u83 u84 u85 u86 u87 u88 u89 u90 u91 u92 u93 u94 u95 u96 u97 u98 u99 u100 u101 u102 u103 u104 u105 u106 u107 u108 u109 u110 u111 u112 u113 u114 u115 u116 u117 u118 u119 u120 u121 u122 u123 u124 u125 u126 u127 u128 u129 u130 u131 u132 u133 u134 u135 u136 u137 u138 u139 u140 u141 u142 u143 u144 u145 u146 u147 u148 u149 u150 u151 u152 u153 u154 u155 u156 u157 u158 u159 u160 u161 u162 u163 u164 u165 u166 u167 u168 u169 u170 u171 u172 u173 u174 u175 u176 u177 u178 u179 u180 u181 u182 u183 u184 u185 u186 u187 u188 u189 u190 u191 u192 u193 u194 u195 u196 u197 u198 u199 u200 u201 u202 u203 u204:fw) (wx:fp),fB w0.heap.size w0 wx→Q (.exit 1) { tmps:=#[s0,s1,s2,s3,.pointer (some ⟨G,0,none⟩),.pointer (some ⟨b5,0,none⟩),.pointer (some ⟨b6,0,none⟩),.pointer (some ⟨b7,0,none⟩),s8,s9,s10,s11,s12,.pointer (some ⟨S,0,none⟩),.pointer (some ⟨S+1,0,none⟩),.bool A,.pointer (some ⟨S+1+1,0,none⟩),.bool C,.pointer (some ⟨S+1+1+1,0,none⟩),.bool D,.func (.func 141) #[] #[.pointer (some ⟨G,0,none⟩),.pointer (some ⟨S,0,none⟩)],.pointer (some ⟨S+1+1+1+1,0,none⟩),u22,u23,s24,s25,s26,s27,s28,s29,s30,s31,s32,s33,s34,s35,s36,s37,s38,s39,s40,s41,s42,s43,s44,s45,s46,s47,s48,s49,s50,s51,s52,s53,s54,s55,s56,s57,s58,s59,s60,s61,s62,s63,s64,s65,s66,s67,u68,u69,u70,u71,u72,u73,u74,u75,u76,u77,u78,u79,u80,u81,u82,u83,u84,u85,u86,u87,u88,u89,u90,u91,u92,u93,u94,u95,u96,u97,u98,u99,u100,u101,u102,u103,u104,u105,u106,u107,u108,u109,u110,u111,u112,u113,u114,u115,u116,u117,u118,u119,u120,u121,u122,u123,u124,u125,u126,u127,u128,u129,u130,u131,u132,u133,u134,u135,u136,u137,u138,u139,u140,u141,u142,u143,u144,u145,u146,u147,u148,u149,u150,u151,u152,u153,u154,u155,u156,u157,u158,u159,u160,u161,u162,u163,u164,u165,u166,u167,u168,u169,u170,u171,u172,u173,u174,u175,u176,u177,u178,u179,u180,u181,u182,u183,u184,u185,u186,u187,u188,u189,u190,u191,u192,u193,u194,u195,u196,u197,u198,u199,u200,u201,u202,u203,u204,s205,s206,s207,s208,s209,s210,s211,s212,s213,s214,s215,s216,s217],defers:=[] } wx) :
 Code.wp Tryz.prog ((ew 11 (Tryz.f81.body.getD .skip)).getD .skip) Q { tmps:=#[s0,s1,s2,s3,.pointer (some ⟨G,0,none⟩),.pointer (some ⟨b5,0,none⟩),.pointer (some ⟨b6,0,none⟩),.pointer (some ⟨b7,0,none⟩),s8,s9,s10,s11,s12,.pointer (some ⟨S,0,none⟩),.pointer (some ⟨S+1,0,none⟩),.bool A,.pointer (some ⟨S+1+1,0,none⟩),.bool C,.pointer (some ⟨S+1+1+1,0,none⟩),.bool D,.func (.func 141) #[] #[.pointer (some ⟨G,0,none⟩),.pointer (some ⟨S,0,none⟩)],.pointer (some ⟨S+1+1+1+1,0,none⟩),s22,s23,s24,s25,s26,s27,s28,s29,s30,s31,s32,s33,s34,s35,s36,s37,s38,s39,s40,s41,s42,s43,s44,s45,s46,s47,s48,s49,s50,s51,s52,s53,s54,s55,s56,s57,s58,s59,s60,s61,s62,s63,s64,s65,s66,s67,s68,s69,s70,s71,s72,s73,s74,s75,s76,s77,s78,s79,s80,s81,s82,s83,s84,s85,s86,s87,s88,s89,s90,s91,s92,s93,s94,s95,s96,s97,s98,s99,s100,s101,s102,s103,s104,s105,s106,s107,s108,s109,s110,s111,s112,s113,s114,s115,s116,s117,s118,s119,s120,s121,s122,s123,s124,s125,s126,s127,s128,s129,s130,s131,s132,s133,s134,s135,s136,s137,s138,s139,s140,s141,s142,s143,s144,s145,s146,s147,s148,s149,s150,s151,s152,s153,s154,s155,s156,s157,s158,s159,s160,s161,s162,s163,s164,s165,s166,s167,s168,s169,s170,s171,s172,s173,s174,s175,s176,s177,s178,s179,s180,s181,s182,s183,s184,s185,s186,s187,s188,s189,s190,s191,s192,s193,s194,s195,s196,s197,s198,s199,s200,s201,s202,s203,s204,s205,s206,s207,s208,s209,s210,s211,s212,s213,s214,s215,s216,s217],defers:=[] } w0:=by
 have HFIN:=h_ hfin
 have HNONE:=h_ hnone
 have HO:=h_ ho
 have L5:=h_ l5
 have L6:=h_ l6
 have L7:=h_ l7
 have h5lt:=(fC.1 h5).1
 have h6lt:=(fC.1 h6).1
 have h7lt:=(fC.1 h7).1
 have HST:=h_ hst
 have HPP:=h_ hP
 clear hfin hnone ho l5 l6 l7 hst hP
 conv=>arg 2;whnf
 refine wp_seq ?_
 refine zkQ m1 B g G S b5 b6 b7 id x y z A C D _ wr w0 HST.out rfl Q HPP.out _ _ _ _ _ _ _ _ _ _ _ _ _ _ _ _ _ _ _ _ _ _ _ _ _ _ _ _ _ _ _ _ _ _ _ _ _ _ _ _ _ _ _ _ _ _ _ _ _ _ _ _ _ _ _ _ _ _ _ _ _ _ _ _ _ _ _ _ _ _ _ _ _ _ _ _ _ _ _ _ _ _ _ _ _ _ _ _ _ _ _ _ _ _ _ _ _ _ _ _ _ _ _ _ _ _ _ _ _ _ _ _ _ _ _ _ _ _ _ _ _ _ _ _ _ _ _ _ _ _ _ _ _ _ _ _ _ _ _ _ _ _ _ _ _ _ _ _ _ _ _ _ _ _ _ _ _ _ _ _ _ _ _ _ _ _ _ _ _ _ _ _ _ _ _ _ _ _ _ _ _ _ _ _ _ _ _ _ _ _ _ _ _ _ _ _ _ _ _ _ _ _ _ _ _ _ ?_
 intro u69 u70 u71 u72 u73 u74 u75 u76 u77 u78 u79 u80 u81 u82 u83 wc hbc
 have hst:=HST.out.later hGS hbc
 obtain⟨AN,hAN⟩:∃ AN,AN=anc4 (en y) (en z):=⟨_,rfl⟩
 rw [←hAN]
 have HAN:=h_ hAN
 clear hAN HST
 cases A with
 | true =>
   refine ft rfl ?_
   cases C with
   | false =>
     cases D with
     | false =>
       go_upto_if 101 with fail
       refine ft rfl ?_
       have ho1:o=none:=HO.out
       refine ziZ m1 B g G S b5 b6 b7 b5e b6e b7e c5 c6 c7 id x y z pn nn rn true wr wc hGS hS hB hl hst ((hbc.block _ h5lt).trans h5) (L5.out _ hbc) Q _ _ _ _ _ _ _ _ _ _ _ _ _ _ _ _ _ _ _ _ _ _ _ _ _ _ _ _ _ _ _ _ _ _ _ _ _ _ _ _ _ _ _ _ _ _ _ _ _ _ _ _ _ _ _ _ _ _ _ _ _ _ _ _ _ _ _ _ _ _ _ _ _ _ _ _ _ _ _ _ _ _ _ _ _ _ _ _ _ _ _ _ _ _ _ _ _ _ _ _ _ _ _ _ _ _ _ _ _ _ _ _ _ _ _ _ _ _ _ _ _ _ _ _ _ _ _ _ _ _ _ _ _ _ _ _ _ _ _ _ _ _ _ _ _ _ _ _ _ _ _ _ _ _ _ _ _ _ _ _ _ _ _ _ _ _ _ _ _ _ _ _ _ _ _ _ _ _ _ _ _ _ _ _ _ _ _ _ _ _ _ _ _ _ _ _ _ _ _ _ _ _ _ _ _ _ ?_
       intros
       exact HNONE.out ho1 _ _ _ _ _ _ _ _ _ _ _ _ _ _ _ _ _ _ _ _ _ _ _ _ _ _ _ _ _ _ _ _ _ _ _ _ _ _ _ _ _ _ _ _ _ _ _ _ _ _ _ _ _ _ _ _ _ _ _ _ _ _ _ _ _ _ _ _ _ _ _ _ _ _ _ _ _ _ _ _ _ _ _ _ _ _ _ _ _ _ _ _ _ _ _ _ _ _ _ _ _ _ _ _ _ _ _ _ _ _ _ _ _ _ _ _ _ _ _ _ _ _ _ _ _ _ _ _ _ _ _ _ _ _ _ _ _ _ _ _ hbc
     | true =>
       go_upto_if 101 with fail
       refine ft rfl ?_
       have ho1:o=if cmEq rn pn=true then none else some (z,[cW]):=HO.out
       have hcmp:=zb8 rn pn wc
       refine zi0 m1 B g G S b5 b6 b7 b5e b6e b7e c5 c6 c7 id x y z pn nn rn (cmEq rn pn) wr wc hGS hS hB hl hst ((hbc.block _ h5lt).trans h5) (L5.out _ hbc) ((hbc.block _ h7lt).trans h7) (L7.out _ hbc) hcmp Q _ _ _ _ _ _ _ _ _ _ _ _ _ _ _ _ _ _ _ _ _ _ _ _ _ _ _ _ _ _ _ _ _ _ _ _ _ _ _ _ _ _ _ _ _ _ _ _ _ _ _ _ _ _ _ _ _ _ _ _ _ _ _ _ _ _ _ _ _ _ _ _ _ _ _ _ _ _ _ _ _ _ _ _ _ _ _ _ _ _ _ _ _ _ _ _ _ _ _ _ _ _ _ _ _ _ _ _ _ _ _ _ _ _ _ _ _ _ _ _ _ _ _ _ _ _ _ _ _ _ _ _ _ _ _ _ _ _ _ _ _ _ _ _ _ _ _ _ _ _ _ _ _ _ _ _ _ _ _ _ _ _ _ _ _ _ _ _ _ _ _ _ _ _ _ _ _ _ _ _ _ _ _ _ _ _ _ _ _ _ _ _ _ _ _ _ _ _ _ _ _ _ _ _ _ _ (fun hE=>?_) (fun hE=>?_)
       · rw [hE,if_neg Bool.false_ne_true] at ho1
         intros
         exact HFIN.out _ _ ho1 _ _ _ _ _ _ _ _ _ _ _ _ _ _ _ _ _ _ _ _ _ _ _ _ _ _ _ _ _ _ _ _ _ _ _ _ _ _ _ _ _ _ _ _ _ _ _ _ _ _ _ _ _ _ _ _ _ _ _ _ _ _ _ _ _ _ _ _ _ _ _ _ _ _ _ _ _ _ _ _ _ _ _ _ _ _ _ _ _ _ _ _ _ _ _ _ _ _ _ _ _ _ _ _ _ _ _ _ _ _ _ _ _ _ _ _ _ _ _ _ _ _ _ _ _ _ _ _ _ _ _ _ _ _ _ _ _ _ _ _ (by assumption)
       · rw [hE,if_pos rfl] at ho1
         intros
         exact HNONE.out ho1 _ _ _ _ _ _ _ _ _ _ _ _ _ _ _ _ _ _ _ _ _ _ _ _ _ _ _ _ _ _ _ _ _ _ _ _ _ _ _ _ _ _ _ _ _ _ _ _ _ _ _ _ _ _ _ _ _ _ _ _ _ _ _ _ _ _ _ _ _ _ _ _ _ _ _ _ _ _ _ _ _ _ _ _ _ _ _ _ _ _ _ _ _ _ _ _ _ _ _ _ _ _ _ _ _ _ _ _ _ _ _ _ _ _ _ _ _ _ _ _ _ _ _ _ _ _ _ _ _ _ _ _ _ _ _ _ _ _ _ _ hbc
   | true =>
     cases D with
     | false =>
       go_upto_if 101 with fail
       refine ft rfl ?_
       have ho1:o=if cmEq nn pn=true then none else some (y,[cW]):=HO.out
       have hcmp:=zb8 nn pn wc
       refine zi1 m1 B g G S b5 b6 b7 b5e b6e b7e c5 c6 c7 id x y z pn nn rn (cmEq nn pn) wr wc hGS hS hB hl hst ((hbc.block _ h5lt).trans h5) (L5.out _ hbc) ((hbc.block _ h6lt).trans h6) (L6.out _ hbc) hcmp Q _ _ _ _ _ _ _ _ _ _ _ _ _ _ _ _ _ _ _ _ _ _ _ _ _ _ _ _ _ _ _ _ _ _ _ _ _ _ _ _ _ _ _ _ _ _ _ _ _ _ _ _ _ _ _ _ _ _ _ _ _ _ _ _ _ _ _ _ _ _ _ _ _ _ _ _ _ _ _ _ _ _ _ _ _ _ _ _ _ _ _ _ _ _ _ _ _ _ _ _ _ _ _ _ _ _ _ _ _ _ _ _ _ _ _ _ _ _ _ _ _ _ _ _ _ _ _ _ _ _ _ _ _ _ _ _ _ _ _ _ _ _ _ _ _ _ _ _ _ _ _ _ _ _ _ _ _ _ _ _ _ _ _ _ _ _ _ _ _ _ _ _ _ _ _ _ _ _ _ _ _ _ _ _ _ _ _ _ _ _ _ _ _ _ _ _ _ _ _ _ _ _ _ _ _ _ (fun hE=>?_) (fun hE=>?_)
       · rw [hE,if_neg Bool.false_ne_true] at ho1
         intros
         exact HFIN.out _ _ ho1 _ _ _ _ _ _ _ _ _ _ _ _ _ _ _ _ _ _ _ _ _ _ _ _ _ _ _ _ _ _ _ _ _ _ _ _ _ _ _ _ _ _ _ _ _ _ _ _ _ _ _ _ _ _ _ _ _ _ _ _ _ _ _ _ _ _ _ _ _ _ _ _ _ _ _ _ _ _ _ _ _ _ _ _ _ _ _ _ _ _ _ _ _ _ _ _ _ _ _ _ _ _ _ _ _ _ _ _ _ _ _ _ _ _ _ _ _ _ _ _ _ _ _ _ _ _ _ _ _ _ _ _ _ _ _ _ _ _ _ _ (by assumption)
       · rw [hE,if_pos rfl] at ho1
         intros
         exact HNONE.out ho1 _ _ _ _ _ _ _ _ _ _ _ _ _ _ _ _ _ _ _ _ _ _ _ _ _ _ _ _ _ _ _ _ _ _ _ _ _ _ _ _ _ _ _ _ _ _ _ _ _ _ _ _ _ _ _ _ _ _ _ _ _ _ _ _ _ _ _ _ _ _ _ _ _ _ _ _ _ _ _ _ _ _ _ _ _ _ _ _ _ _ _ _ _ _ _ _ _ _ _ _ _ _ _ _ _ _ _ _ _ _ _ _ _ _ _ _ _ _ _ _ _ _ _ _ _ _ _ _ _ _ _ _ _ _ _ _ _ _ _ _ hbc
     | true =>
       have ho1:o=some (zaQ x y z,dm x y z):=HO.out
       go_upto_if 101 with fail
       refine wp_cond_true rfl ?_
       refine zjL m1 B g G S id x y z wr wc hGS hS hB hl hst Q HPP.out _ _ _ _ _ _ _ _ _ _ _ _ _ _ _ _ _ _ _ _ _ _ _ _ _ _ _ _ _ _ _ _ _ _ _ _ _ _ _ _ _ _ _ _ _ _ _ _ _ _ _ _ _ _ _ _ _ _ _ _ _ _ _ _ _ _ _ _ _ _ _ _ _ _ _ _ _ _ _ _ _ _ _ _ _ _ _ _ _ _ _ _ _ _ _ _ _ _ _ _ _ _ _ _ _ _ _ _ _ _ _ _ _ _ _ _ _ _ _ _ _ _ _ _ _ _ _ _ _ _ _ _ _ _ _ _ _ _ _ _ _ _ _ _ _ _ _ _ _ _ _ _ _ _ _ _ _ _ _ _ _ _ _ _ _ _ _ _ _ _ _ _ _ _ _ _ _ _ _ _ _ _ _ _ _ _ _ _ _ _ _ _ _ _ _ _ _ _ _ _ _ _ _ _ _ _ _ _ _ _ _ ?_
       intros
       exact HFIN.out _ _ ho1 _ _ _ _ _ _ _ _ _ _ _ _ _ _ _ _ _ _ _ _ _ _ _ _ _ _ _ _ _ _ _ _ _ _ _ _ _ _ _ _ _ _ _ _ _ _ _ _ _ _ _ _ _ _ _ _ _ _ _ _ _ _ _ _ _ _ _ _ _ _ _ _ _ _ _ _ _ _ _ _ _ _ _ _ _ _ _ _ _ _ _ _ _ _ _ _ _ _ _ _ _ _ _ _ _ _ _ _ _ _ _ _ _ _ _ _ _ _ _ _ _ _ _ _ _ _ _ _ _ _ _ _ _ _ _ _ _ _ _ _ (by assumption)
 | false =>
   cases C with
   | false =>
     have ho:o=some (z,[]):=by
      cases D with
      | true=>exact HO.out
      | false=>rw [htz rfl];exact HO.out
     clear HO htz
     obtain⟨xid,xev,xfrm,xtil,xau,xtx,xdn,xlo⟩:=x
     obtain⟨yid,yev,yfrm,ytil,yau,ytx,ydn,ylo⟩:=y
     obtain⟨zid,zev,zfrm,ztil,zau,ztx,zdn,zlo⟩:=z
     simp only [Cm.enc] at hst HFIN
     have HE:=h_ (HFIN.out ⟨zid,zev,zfrm,ztil,zau,ztx,zdn,zlo⟩ [] ho)
     have HB0:=h_ hst.o
     have fq:∀ j,wc.cell? ⟨S+1+1+1,j,none⟩=_:=fun j=>fm _ _ j _ 52 (0,0) hst.z
     have HR:=h_ (show CSt m1 B g G S id (#[fD .i64 xid,.int .i64 xev,.int .i64 xfrm,.int .i64 xtil,.string xau,.string xtx,.bool xdn,.bool xlo]) (#[fD .i64 yid,.int .i64 yev,.int .i64 yfrm,.int .i64 ytil,.string yau,.string ytx,.bool ydn,.bool ylo]) (#[fD .i64 zid,.int .i64 zev,.int .i64 zfrm,.int .i64 ztil,.string zau,.string ztx,.bool zdn,.bool zlo]) (#[fD .i64 zid,.int .i64 zev,.int .i64 zfrm,.int .i64 ztil,.string zau,.string ztx,.bool zdn,.bool zlo]) (m1.cls++cX id []) wr (wc.setRow (S+1+1+1+1) (#[fD .i64 zid,.int .i64 zev,.int .i64 zfrm,.int .i64 ztil,.string zau,.string ztx,.bool zdn,.bool zlo])) from by
      have:=hst.row hGS hS (#[fD .i64 zid,.int .i64 zev,.int .i64 zfrm,.int .i64 ztil,.string zau,.string ztx,.bool zdn,.bool zlo])
      simpa [cX] using this)
     clear hst HFIN HNONE ho
     refine ft rfl ?_
     go_wp2_with (refine fu rfl 52 (.tmp 21) (.tmp 100) rfl (S+1+1+1+1) (#[fD .i64 zid,.int .i64 zev,.int .i64 zfrm,.int .i64 ztil,.string zau,.string ztx,.bool zdn,.bool zlo]) rfl rfl 52 _ HB0.out zbi rfl (one8 _ _ _ _ _ _ _ _) ?_)
     exact HE.out _ _ _ _ _ _ _ _ _ _ _ _ _ _ _ _ _ _ _ _ _ _ _ _ _ _ _ _ _ _ _ _ _ _ _ _ _ _ _ _ _ _ _ _ _ _ _ _ _ _ _ _ _ _ _ _ _ _ _ _ _ _ _ _ _ _ _ _ _ _ _ _ _ _ _ _ _ _ _ _ _ _ _ _ _ _ _ _ _ _ _ _ _ _ _ _ _ _ _ _ _ _ _ _ _ _ _ _ _ _ _ _ _ _ _ _ _ _ _ _ _ _ _ _ _ _ _ _ _ _ _ _ _ _ _ _ _ _ _ _ HR.out
   | true =>
     cases D with
     | false =>
       have ho:o=some (y,[]):=HO.out
       clear HO htz
       obtain⟨xid,xev,xfrm,xtil,xau,xtx,xdn,xlo⟩:=x
       obtain⟨yid,yev,yfrm,ytil,yau,ytx,ydn,ylo⟩:=y
       obtain⟨zid,zev,zfrm,ztil,zau,ztx,zdn,zlo⟩:=z
       simp only [Cm.enc] at hst HFIN
       have HE:=h_ (HFIN.out ⟨yid,yev,yfrm,ytil,yau,ytx,ydn,ylo⟩ [] ho)
       have HB0:=h_ hst.o
       have fq:∀ j,wc.cell? ⟨S+1+1,j,none⟩=_:=fun j=>fm _ _ j _ 52 (0,0) hst.y
       have HR:=h_ (show CSt m1 B g G S id (#[fD .i64 xid,.int .i64 xev,.int .i64 xfrm,.int .i64 xtil,.string xau,.string xtx,.bool xdn,.bool xlo]) (#[fD .i64 yid,.int .i64 yev,.int .i64 yfrm,.int .i64 ytil,.string yau,.string ytx,.bool ydn,.bool ylo]) (#[fD .i64 zid,.int .i64 zev,.int .i64 zfrm,.int .i64 ztil,.string zau,.string ztx,.bool zdn,.bool zlo]) (#[fD .i64 yid,.int .i64 yev,.int .i64 yfrm,.int .i64 ytil,.string yau,.string ytx,.bool ydn,.bool ylo]) (m1.cls++cX id []) wr (wc.setRow (S+1+1+1+1) (#[fD .i64 yid,.int .i64 yev,.int .i64 yfrm,.int .i64 ytil,.string yau,.string ytx,.bool ydn,.bool ylo])) from by
        have:=hst.row hGS hS (#[fD .i64 yid,.int .i64 yev,.int .i64 yfrm,.int .i64 ytil,.string yau,.string ytx,.bool ydn,.bool ylo])
        simpa [cX] using this)
       clear hst HFIN HNONE ho
       refine ft rfl ?_
       go_wp2_with (refine fu rfl 52 (.tmp 21) (.tmp 96) rfl (S+1+1+1+1) (#[fD .i64 yid,.int .i64 yev,.int .i64 yfrm,.int .i64 ytil,.string yau,.string ytx,.bool ydn,.bool ylo]) rfl rfl 52 _ HB0.out zbi rfl (one8 _ _ _ _ _ _ _ _) ?_)
       exact HE.out _ _ _ _ _ _ _ _ _ _ _ _ _ _ _ _ _ _ _ _ _ _ _ _ _ _ _ _ _ _ _ _ _ _ _ _ _ _ _ _ _ _ _ _ _ _ _ _ _ _ _ _ _ _ _ _ _ _ _ _ _ _ _ _ _ _ _ _ _ _ _ _ _ _ _ _ _ _ _ _ _ _ _ _ _ _ _ _ _ _ _ _ _ _ _ _ _ _ _ _ _ _ _ _ _ _ _ _ _ _ _ _ _ _ _ _ _ _ _ _ _ _ _ _ _ _ _ _ _ _ _ _ _ _ _ _ _ _ _ _ HR.out
     | true =>
       have ho1:o=if AN=true then some (y,[]) else some ({ y with frm:=0,til:=0,lost:=true },[aT]):=by
        have:=HO.out
        rw [HAN.out,←zi7]
        exact this
       cases AN with
       | true =>
         have ho:o=some (y,[]):=ho1
         clear HO ho1 htz
         obtain⟨xid,xev,xfrm,xtil,xau,xtx,xdn,xlo⟩:=x
         obtain⟨yid,yev,yfrm,ytil,yau,ytx,ydn,ylo⟩:=y
         obtain⟨zid,zev,zfrm,ztil,zau,ztx,zdn,zlo⟩:=z
         simp only [Cm.enc] at hst HFIN
         have HE:=h_ (HFIN.out ⟨yid,yev,yfrm,ytil,yau,ytx,ydn,ylo⟩ [] ho)
         have HB0:=h_ hst.o
         have fq:∀ j,wc.cell? ⟨S+1+1,j,none⟩=_:=fun j=>fm _ _ j _ 52 (0,0) hst.y
         have HR:=h_ (show CSt m1 B g G S id (#[fD .i64 xid,.int .i64 xev,.int .i64 xfrm,.int .i64 xtil,.string xau,.string xtx,.bool xdn,.bool xlo]) (#[fD .i64 yid,.int .i64 yev,.int .i64 yfrm,.int .i64 ytil,.string yau,.string ytx,.bool ydn,.bool ylo]) (#[fD .i64 zid,.int .i64 zev,.int .i64 zfrm,.int .i64 ztil,.string zau,.string ztx,.bool zdn,.bool zlo]) (#[fD .i64 yid,.int .i64 yev,.int .i64 yfrm,.int .i64 ytil,.string yau,.string ytx,.bool ydn,.bool ylo]) (m1.cls++cX id []) wr (wc.setRow (S+1+1+1+1) (#[fD .i64 yid,.int .i64 yev,.int .i64 yfrm,.int .i64 ytil,.string yau,.string ytx,.bool ydn,.bool ylo])) from by
          have:=hst.row hGS hS (#[fD .i64 yid,.int .i64 yev,.int .i64 yfrm,.int .i64 ytil,.string yau,.string ytx,.bool ydn,.bool ylo])
          simpa [cX] using this)
         clear hst HFIN HNONE ho
         refine ft rfl ?_
         go_wp2_with (refine fu rfl 52 (.tmp 21) (.tmp 96) rfl (S+1+1+1+1) (#[fD .i64 yid,.int .i64 yev,.int .i64 yfrm,.int .i64 ytil,.string yau,.string ytx,.bool ydn,.bool ylo]) rfl rfl 52 _ HB0.out zbi rfl (one8 _ _ _ _ _ _ _ _) ?_)
         exact HE.out _ _ _ _ _ _ _ _ _ _ _ _ _ _ _ _ _ _ _ _ _ _ _ _ _ _ _ _ _ _ _ _ _ _ _ _ _ _ _ _ _ _ _ _ _ _ _ _ _ _ _ _ _ _ _ _ _ _ _ _ _ _ _ _ _ _ _ _ _ _ _ _ _ _ _ _ _ _ _ _ _ _ _ _ _ _ _ _ _ _ _ _ _ _ _ _ _ _ _ _ _ _ _ _ _ _ _ _ _ _ _ _ _ _ _ _ _ _ _ _ _ _ _ _ _ _ _ _ _ _ _ _ _ _ _ _ _ _ _ _ HR.out
       | false =>
         refine wp_cond_true rfl ?_
         refine zjM m1 B g G S id x y z wr wc hGS hS hB hl hst Q _ _ _ _ _ _ _ _ _ _ _ _ _ _ _ _ _ _ _ _ _ _ _ _ _ _ _ _ _ _ _ _ _ _ _ _ _ _ _ _ _ _ _ _ _ _ _ _ _ _ _ _ _ _ _ _ _ _ _ _ _ _ _ _ _ _ _ _ _ _ _ _ _ _ _ _ _ _ _ _ _ _ _ _ _ _ _ _ _ _ _ _ _ _ _ _ _ _ _ _ _ _ _ _ _ _ _ _ _ _ _ _ _ _ _ _ _ _ _ _ _ _ _ _ _ _ _ _ _ _ _ _ _ _ _ _ _ _ _ _ _ _ _ _ _ _ _ _ _ _ _ _ _ _ _ _ _ _ _ _ _ _ _ _ _ _ _ _ _ _ _ _ _ _ _ _ _ _ _ _ _ _ _ _ _ _ _ _ _ _ _ _ _ _ _ _ _ _ _ _ _ _ _ _ _ _ _ _ _ _ _ ?_
         intros
         exact HFIN.out _ _ ho1 _ _ _ _ _ _ _ _ _ _ _ _ _ _ _ _ _ _ _ _ _ _ _ _ _ _ _ _ _ _ _ _ _ _ _ _ _ _ _ _ _ _ _ _ _ _ _ _ _ _ _ _ _ _ _ _ _ _ _ _ _ _ _ _ _ _ _ _ _ _ _ _ _ _ _ _ _ _ _ _ _ _ _ _ _ _ _ _ _ _ _ _ _ _ _ _ _ _ _ _ _ _ _ _ _ _ _ _ _ _ _ _ _ _ _ _ _ _ _ _ _ _ _ _ _ _ _ _ _ _ _ _ _ _ _ _ _ _ _ _ (by assumption)
def zku (K:Act→fp→Prop)(X:Exit→Act→fp→Prop)(F:List PanicEntry→List Deferred→fp→Prop):Exit→Act→fp→Prop
 | .normal,a,w=>K a w
 | .panic ch,a,w=>F ch a.defers w
 | e,a,w=>X e a w
theorem zhW {P:Program} {s:Code} {a:Act} {w:fp} {Q:Exit→Act→fp→Prop} (hP:∀ ch a a' w,a'.defers=a.defers→Q (.panic ch) a w→Q (.panic ch) a' w)(h:s.wp P (zku (Q .normal) Q (fun ch d w=>∃ a,d=a.defers∧Q (.panic ch) a w)) a w):s.wp P Q a w:=by
 refine wp_mono h ?_
 intro e a' w' q
 cases e with
 | normal=>exact q
 | panic ch=>obtain⟨b,hd,hb⟩:=q;exact hP _ _ _ _ hd hb
 | exit id=>exact q
 | goto l=>exact q
 | ret=>exact q
 | outgrown=>exact q
theorem zkr (mm:Mg)(B g G S:Nat)(c:Cm)(w0:fp)(hat:mm.at_ B g w0)(hB:B≤w0.heap.size)(hG:w0.heap[G]? =some (.cells #[.pointer (some ⟨g,0,none⟩)] 140 (0,0)))(hO:w0.heap[S+1+1+1+1]? =some (.cells c.enc.toArray 52 (0,0)))(hl:mm.cms.length≤4000)(hn:¬ mm.mine g G)(hn2:¬ mm.mine g (S+1+1+1+1))(Q:Exit→Act→fp→Prop)(hP:∀ ch a a' w,a'.defers=a.defers→Q (.panic ch) a w→Q (.panic ch) a' w)(s0 s1 s2 s3 s5 s6 s7 s8 s9 s10 s11 s12 s13 s14 s15 s16 s17 s18 s19 s20 s22 s23 s24 s25 s26 s27 s28 s29 s30 s31 s32 s33 s34 s35 s36 s37 s38 s39 s40 s41 s42 s43 s44 s45 s46 s47 s48 s49 s50 s51 s52 s53 s54 s55 s56 s57 s58 s59 s60 s61 s62 s63 s64 s65 s66 s67 s68 s69 s70 s71 s72 s73 s74 s75 s76 s77 s78 s79 s80 s81 s82 s83 s84 s85 s86 s87 s88 s89 s90 s91 s92 s93 s94 s95 s96 s97 s98 s99 s100 s101 s102 s103 s104 s105 s106 s107 s108 s109 s110 s111 s112 s113 s114 s115 s116 s117 s118 s119 s120 s121 s122 s123 s124 s125 s126 s127 s128 s129 s130 s131 s132 s133 s134 s135 s136 s137 s138 s139 s140 s141 s142 s143 s144 s145 s146 s147 s148 s149 s150 s151 s152 s153 s154 s155 s156 s157 s158 s159 s160 s161 s162 s163 s164 s165 s166 s167 s168 s169 s170 s171 s172 s173 s174 s175 s176 s177 s178 s179 s180 s181 s182 s183 s184 s185 s186 s187 s188 s189 s190 s191 s192 s193 s194 s195 s196 s197 s198 s199 s200 s201 s202 s203 s204 s205 s206 s207 s208 s209 s210 s211 s212 s213 s214 s215 s216 s217:fw)
 (hfin:∀ (u205 u206 u207 u208 u209 u210 u211 u212 u213 u214 u215 u216:fw) (cv':fw) (wx:fp),({ mm with cv:=cv',cms:=mm.cms++[c] }:Mg).at_ B g wx→Mg.step g mm { mm with cv:=cv',cms:=mm.cms++[c] } w0 wx→Q .normal { tmps:=#[s0,s1,s2,s3,.pointer (some ⟨G,0,none⟩),s5,s6,s7,s8,s9,s10,s11,s12,s13,s14,s15,s16,s17,s18,s19,s20,.pointer (some ⟨S+1+1+1+1,0,none⟩),s22,s23,s24,s25,s26,s27,s28,s29,s30,s31,s32,s33,s34,s35,s36,s37,s38,s39,s40,s41,s42,s43,s44,s45,s46,s47,s48,s49,s50,s51,s52,s53,s54,s55,s56,s57,s58,s59,s60,s61,s62,s63,s64,s65,s66,s67,s68,s69,s70,s71,s72,s73,s74,s75,s76,s77,s78,s79,s80,s81,s82,s83,s84,s85,s86,s87,s88,s89,s90,s91,s92,s93,s94,s95,s96,s97,s98,s99,s100,s101,s102,s103,s104,s105,s106,s107,s108,s109,s110,s111,s112,s113,s114,s115,s116,s117,s118,s119,s120,s121,s122,s123,s124,s125,s126,s127,s128,s129,s130,s131,s132,s133,s134,s135,s136,s137,s138,s139,s140,s141,s142,s143,s144,s145,s146,s147,s148,s149,s150,s151,s152,s153,s154,s155,s156,s157,s158,s159,s160,s161,s162,s163,s164,s165,s166,s167,s168,s169,s170,s171,s172,s173,s174,s175,s176,s177,s178,s179,s180,s181,s182,s183,s184,s185,s186,s187,s188,s189,s190,s191,s192,s193,s194,s195,s196,s197,s198,s199,s200,s201,s202,s203,s204,u205,u206,u207,u208,u209,u210,u211,u212,u213,u214,u215,u216,s217],defers:=[] } wx) :
 Code.wp Tryz.prog ((zeq 35 (Tryz.f81.body.getD .skip)).getD .skip) Q { tmps:=#[s0,s1,s2,s3,.pointer (some ⟨G,0,none⟩),s5,s6,s7,s8,s9,s10,s11,s12,s13,s14,s15,s16,s17,s18,s19,s20,.pointer (some ⟨S+1+1+1+1,0,none⟩),s22,s23,s24,s25,s26,s27,s28,s29,s30,s31,s32,s33,s34,s35,s36,s37,s38,s39,s40,s41,s42,s43,s44,s45,s46,s47,s48,s49,s50,s51,s52,s53,s54,s55,s56,s57,s58,s59,s60,s61,s62,s63,s64,s65,s66,s67,s68,s69,s70,s71,s72,s73,s74,s75,s76,s77,s78,s79,s80,s81,s82,s83,s84,s85,s86,s87,s88,s89,s90,s91,s92,s93,s94,s95,s96,s97,s98,s99,s100,s101,s102,s103,s104,s105,s106,s107,s108,s109,s110,s111,s112,s113,s114,s115,s116,s117,s118,s119,s120,s121,s122,s123,s124,s125,s126,s127,s128,s129,s130,s131,s132,s133,s134,s135,s136,s137,s138,s139,s140,s141,s142,s143,s144,s145,s146,s147,s148,s149,s150,s151,s152,s153,s154,s155,s156,s157,s158,s159,s160,s161,s162,s163,s164,s165,s166,s167,s168,s169,s170,s171,s172,s173,s174,s175,s176,s177,s178,s179,s180,s181,s182,s183,s184,s185,s186,s187,s188,s189,s190,s191,s192,s193,s194,s195,s196,s197,s198,s199,s200,s201,s202,s203,s204,s205,s206,s207,s208,s209,s210,s211,s212,s213,s214,s215,s216,s217],defers:=[] } w0:=by
 have HFIN:=h_ hfin
 have HPP:=h_ hP
 have HAT:=h_ hat
 clear hfin hP
 obtain⟨i0,hi,hi0,hi1,hi2⟩:=info_parts Tryz.info52
 have II:=h_ hi;have I0:=h_ hi0;have I1:=h_ hi1;have I2:=h_ hi2
 clear hi hi0 hi1 hi2
 obtain⟨ka,kc,hrv⟩:=hat.row7.slice
 have hgl:=hat.glt
 have hGl:=(fC.1 hG).1
 have hOl:=(fC.1 hO).1
 obtain⟨cid,cev,cfrm,ctil,cau,ctx,cdn,clo⟩:=c
 have HC8:=h_ (show mm.arr[7]? =some (.slice ka mm.cms.length kc) from hrv▸rfl)
 have c7:w0.cell? ⟨g,7,none⟩=some (.slice ka mm.cms.length kc):=by
  rw [fm _ _ 7 mm.arr 142 (0,0) hat.cells];exact HC8.out
 have c7':∀ o,(w0.alloc o).cell? ⟨g,7,none⟩=some (.slice ka mm.cms.length kc):=fun o=>by
  rw [fE _ _ _ (by simpa using hgl)];exact c7
 have dG:∀ j,w0.cell? ⟨G,j,none⟩=_:=fun j=>fm _ _ j _ 140 (0,0) hG
 have dG':∀ o j,(w0.alloc o).cell? ⟨G,j,none⟩=_:=fun o j=>(fE _ _ _ (by simpa using hGl)).trans (dG j)
 have dO:∀ j,w0.cell? ⟨S+1+1+1+1,j,none⟩=_:=fun j=>fm _ _ j _ 52 (0,0) hO
 have dO':∀ o j,(w0.alloc o).cell? ⟨S+1+1+1+1,j,none⟩=_:=fun o j=>(fE _ _ _ (by simpa using hOl)).trans (dO j)
 have HDG:=h_ hG
 simp only [Cm.enc] at dO dO'
 have mixed:Tryz.prog.follows Departure.mixedOrders=true:=by kernel_rfl
 have HO2:=h_ (fun(o:Obj)=>(show(w0.alloc o).drew.ownsRow B 52 8 (.slice ka mm.cms.length kc) mm.cms.length (mm.cms.flatMap Cm.enc) from hrv▸hat.cms.alloc o))
 have HN:=h_ (zen w0 [fD .i64 cid,.int .i64 cev,.int .i64 cfrm,.int .i64 ctil,.string cau,.string ctx,.bool cdn,.bool clo] 52)
 have h63:=h_ (show mm.cms.length+1≤maxLen by unfold maxLen;omega)
 have HBS:=h_ (fun(o:Obj)=>(show B≤(w0.alloc o).drew.heap.size from by show B≤(w0.alloc o).heap.size;simp;omega))
 have HRW:=h_ (show dM 142 7 52 8 B g mm.arr (.slice ka mm.cms.length kc) mm.cms.length (mm.cms.flatMap Cm.enc) w0 from hrv▸hat.row7)
 have HAF:=h_ (fun(o:Obj) (v':fw) (w2:fp)=>eO (v':=v') (w2:=w2) (m:=mm.cms.length+1) (ys:=mm.cms.flatMap Cm.enc++[fD .i64 cid,.int .i64 cev,.int .i64 cfrm,.int .i64 ctil,.string cau,.string ctx,.bool cdn,.bool clo]) HRW.out (zeo w0 o))
 have one8':=h_ (Cm.one (⟨cid,cev,cfrm,ctil,cau,ctx,cdn,clo⟩:Cm))
 simp only [Cm.enc] at one8'
 have HF:=h_ (fun(v':fw) (w2:fp) (ho:w2.ownsRow B 52 8 v' (mm.cms.length+1) (mm.cms.flatMap Cm.enc++[fD .i64 cid,.int .i64 cev,.int .i64 cfrm,.int .i64 ctil,.string cau,.string ctx,.bool cdn,.bool clo])) hg' hap hk hf=>(show ∃ cv',({ mm with cv:=cv',cms:=mm.cms++[(⟨cid,cev,cfrm,ctil,cau,ctx,cdn,clo⟩:Cm)] }:Mg).at_ B g (w2.setCell ⟨g,7,none⟩ v')∧Mg.step g mm { mm with cv:=cv',cms:=mm.cms++[(⟨cid,cev,cfrm,ctil,cau,ctx,cdn,clo⟩:Cm)] } w0 (w2.setCell ⟨g,7,none⟩ v') from hat.cm (hrv▸eN (m:=(mm.cms++[(⟨cid,cev,cfrm,ctil,cau,ctx,cdn,clo⟩:Cm)]).length) (ys:=(mm.cms++[(⟨cid,cev,cfrm,ctil,cau,ctx,cdn,clo⟩:Cm)]).flatMap Cm.enc) HRW.out (by simpa [Cm.enc] using ho) hg' hap hk hf)))
 have HNG:=h_ (fun(w2:fp) (hk:Kept (mOwn g (.slice ka mm.cms.length kc)) w0 w2)=>(hk.block G hGl (fun hm=>hn (by
  rcases hm with h|h
  · exact .inl h
  · exact .inr (.inr (.inr (.inl (hrv▸h))))))).trans hG)
 clear hat hG hO hrv hn hn2
 refine zhW HPP.out ?_
 conv=>arg 2;whnf
 go_region_law_o (refine zaG rfl (.tmp 210) (.tmp 212) 25 rfl B 52 i0 _ 8 72 Tryz.underlying25 II.out I0.out I1.out I2.out rfl (by decide) (.slice ka mm.cms.length kc) mm.cms.length (mm.cms.flatMap Cm.enc) (by rfl) (HO2.out _) ⟨w0.heap.size,0,none⟩ 1 1 [fD .i64 cid,.int .i64 cev,.int .i64 cfrm,.int .i64 ctil,.string cau,.string ctx,.bool cdn,.bool clo] (by rfl) rfl HN.out one8'.out h63.out (by omega) (HBS.out _) ?_;intro v' w2 hown2 hgrow2 hat2;obtain⟨hv',hgc,hap,hkp,hfr⟩:=HAF.out _ _ _ hown2 hgrow2 hat2;obtain⟨va,vc,rfl⟩:=hv';have c7n:w2.cell? ⟨g,7,none⟩=some (.slice ka mm.cms.length kc):=(fm _ _ 7 mm.arr 142 (0,0) hgc).trans HC8.out;have z7n:w2.frozen? ⟨g,7,none⟩=false:=(by simp [fp.frozen?,hgc]);have dGn:∀ j,w2.cell? ⟨G,j,none⟩=_:=(fun j=>fm _ _ j _ 140 (0,0) (HNG.out w2 hkp));have HX2:=h_ hown2;have HGC:=h_ hgc;have HAP:=h_ hap;have HKP:=h_ hkp;have HFR:=h_ hfr;clear hown2 hgrow2 hat2 hgc hap hkp hfr)
 all_goals
  obtain⟨cv',q1,q2⟩:=HF.out _ _ HX2.out HGC.out HAP.out HKP.out HFR.out
  exact HFIN.out _ _ _ _ _ _ _ _ _ _ _ _ cv' _ q1 q2
end Go.Proofs.YtnlnmbcaongehaaGreatDoor
