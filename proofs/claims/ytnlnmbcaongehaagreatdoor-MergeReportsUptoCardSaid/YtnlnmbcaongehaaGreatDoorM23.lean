/- merge.comments: an arm of a round's switch. (printed by gen_mgcmarm.py) merge.comments: an arm of a round's switch. (printed by gen_mgcmarm.py) merge.comments: an arm of a round's switch. (printed by gen_mgcmarm.py) merge.comments: an arm of a round's switch. (printed by gen_mgcmarm.py) -/
import Derived.Test.YtnlnmbcaongehaaGreatDoorM22
set_option linter.unusedVariables false
set_option linter.unusedSimpArgs false
set_option maxRecDepth 100000
set_option maxHeartbeats 12800000
open Go.Lib renaming hid→h_
open Go renaming cell_of_row→fm,World→fp,wpList_store_row→ft,Value→fu
open Go.Value renaming int→fw
open Go.Instr renaming lookup→fB
open Go.Act renaming put→fC
open List renaming setIfInBounds_toArray→fD,getElem_cons_zero→fE,getElem_cons_succ→fF,getElem_toArray→fG,set_cons_zero→fH,set_cons_succ→fI
open Array renaming toArray_toList→fJ
namespace Go.Proofs.YtnlnmbcaongehaaGreatDoor
open Go.RowKit
theorem zjM (m1:Mg)(B g G S:Nat)(id:Int)(x y z:Cm)(wr w0:fp)(hGS:G<S)(hS:wr.heap.size≤S)(hB:B≤S)(hl:m1.cls.length≤60000)(hst:CSt m1 B g G S id x.enc.toArray y.enc.toArray z.enc.toArray x.enc.toArray m1.cls wr w0)(Q:Exit→Act→fp→Prop)(s0 s1 s2 s3 s5 s6 s7 s8 s9 s10 s11 s12 s15 s17 s19 s22 s23 s24 s25 s26 s27 s28 s29 s30 s31 s32 s33 s34 s35 s36 s37 s38 s39 s40 s41 s42 s43 s44 s45 s46 s47 s48 s49 s50 s51 s52 s53 s54 s55 s56 s57 s58 s59 s60 s61 s62 s63 s64 s65 s66 s67 s68 s69 s70 s71 s72 s73 s74 s75 s76 s77 s78 s79 s80 s81 s82 s83 s84 s85 s86 s87 s88 s89 s90 s91 s92 s93 s94 s95 s96 s97 s98 s99 s100 s101 s102 s103 s104 s105 s106 s107 s108 s109 s110 s111 s112 s113 s114 s115 s116 s117 s118 s119 s120 s121 s122 s123 s124 s125 s126 s127 s128 s129 s130 s131 s132 s133 s134 s135 s136 s137 s138 s139 s140 s141 s142 s143 s144 s145 s146 s147 s148 s149 s150 s151 s152 s153 s154 s155 s156 s157 s158 s159 s160 s161 s162 s163 s164 s165 s166 s167 s168 s169 s170 s171 s172 s173 s174 s175 s176 s177 s178 s179 s180 s181 s182 s183 s184 s185 s186 s187 s188 s189 s190 s191 s192 s193 s194 s195 s196 s197 s198 s199 s200 s201 s202 s203 s204 s205 s206 s207 s208 s209 s210 s211 s212 s213 s214 s215 s216 s217:fu)
 (hfin:∀ (u84 u85 u86 u87 u88 u89:fu) (wx:fp),CSt m1 B g G S id x.enc.toArray y.enc.toArray z.enc.toArray ({ y with frm:=0,til:=0,lost:=true }:Cm).enc.toArray (m1.cls++cX id [aT]) wr wx→Q .normal { tmps:=#[s0,s1,s2,s3,.pointer (some ⟨G,0,none⟩),s5,s6,s7,s8,s9,s10,s11,s12,.pointer (some ⟨S,0,none⟩),.pointer (some ⟨S+1,0,none⟩),s15,.pointer (some ⟨S+1+1,0,none⟩),s17,.pointer (some ⟨S+1+1+1,0,none⟩),s19,.func (.func 141) #[] #[.pointer (some ⟨G,0,none⟩),.pointer (some ⟨S,0,none⟩)],.pointer (some ⟨S+1+1+1+1,0,none⟩),s22,s23,s24,s25,s26,s27,s28,s29,s30,s31,s32,s33,s34,s35,s36,s37,s38,s39,s40,s41,s42,s43,s44,s45,s46,s47,s48,s49,s50,s51,s52,s53,s54,s55,s56,s57,s58,s59,s60,s61,s62,s63,s64,s65,s66,s67,s68,s69,s70,s71,s72,s73,s74,s75,s76,s77,s78,s79,s80,s81,s82,s83,u84,u85,u86,u87,u88,u89,s90,s91,s92,s93,s94,s95,s96,s97,s98,s99,s100,s101,s102,s103,s104,s105,s106,s107,s108,s109,s110,s111,s112,s113,s114,s115,s116,s117,s118,s119,s120,s121,s122,s123,s124,s125,s126,s127,s128,s129,s130,s131,s132,s133,s134,s135,s136,s137,s138,s139,s140,s141,s142,s143,s144,s145,s146,s147,s148,s149,s150,s151,s152,s153,s154,s155,s156,s157,s158,s159,s160,s161,s162,s163,s164,s165,s166,s167,s168,s169,s170,s171,s172,s173,s174,s175,s176,s177,s178,s179,s180,s181,s182,s183,s184,s185,s186,s187,s188,s189,s190,s191,s192,s193,s194,s195,s196,s197,s198,s199,s200,s201,s202,s203,s204,s205,s206,s207,s208,s209,s210,s211,s212,s213,s214,s215,s216,s217],defers:=[] } wx) :
 Code.wp Tryz.prog ((ew 12 (Tryz.f81.body.getD .skip)).getD .skip) Q { tmps:=#[s0,s1,s2,s3,.pointer (some ⟨G,0,none⟩),s5,s6,s7,s8,s9,s10,s11,s12,.pointer (some ⟨S,0,none⟩),.pointer (some ⟨S+1,0,none⟩),s15,.pointer (some ⟨S+1+1,0,none⟩),s17,.pointer (some ⟨S+1+1+1,0,none⟩),s19,.func (.func 141) #[] #[.pointer (some ⟨G,0,none⟩),.pointer (some ⟨S,0,none⟩)],.pointer (some ⟨S+1+1+1+1,0,none⟩),s22,s23,s24,s25,s26,s27,s28,s29,s30,s31,s32,s33,s34,s35,s36,s37,s38,s39,s40,s41,s42,s43,s44,s45,s46,s47,s48,s49,s50,s51,s52,s53,s54,s55,s56,s57,s58,s59,s60,s61,s62,s63,s64,s65,s66,s67,s68,s69,s70,s71,s72,s73,s74,s75,s76,s77,s78,s79,s80,s81,s82,s83,s84,s85,s86,s87,s88,s89,s90,s91,s92,s93,s94,s95,s96,s97,s98,s99,s100,s101,s102,s103,s104,s105,s106,s107,s108,s109,s110,s111,s112,s113,s114,s115,s116,s117,s118,s119,s120,s121,s122,s123,s124,s125,s126,s127,s128,s129,s130,s131,s132,s133,s134,s135,s136,s137,s138,s139,s140,s141,s142,s143,s144,s145,s146,s147,s148,s149,s150,s151,s152,s153,s154,s155,s156,s157,s158,s159,s160,s161,s162,s163,s164,s165,s166,s167,s168,s169,s170,s171,s172,s173,s174,s175,s176,s177,s178,s179,s180,s181,s182,s183,s184,s185,s186,s187,s188,s189,s190,s191,s192,s193,s194,s195,s196,s197,s198,s199,s200,s201,s202,s203,s204,s205,s206,s207,s208,s209,s210,s211,s212,s213,s214,s215,s216,s217],defers:=[] } w0:=by
 have HFIN:=h_ hfin
 have HST:=h_ hst
 obtain⟨xid,xev,xfrm,xtil,xau,xtx,xdn,xlo⟩:=x
 obtain⟨yid,yev,yfrm,ytil,yau,ytx,ydn,ylo⟩:=y
 obtain⟨zid,zev,zfrm,ztil,zau,ztx,zdn,zlo⟩:=z
 simp only [Cm.enc] at *
 clear hfin hst
 have HT:=h_ (show CSt m1 B g G S id (#[fw .i64 xid,.int .i64 xev,.int .i64 xfrm,.int .i64 xtil,.string xau,.string xtx,.bool xdn,.bool xlo]) (#[fw .i64 yid,.int .i64 yev,.int .i64 yfrm,.int .i64 ytil,.string yau,.string ytx,.bool ydn,.bool ylo]) (#[fw .i64 zid,.int .i64 zev,.int .i64 zfrm,.int .i64 ztil,.string zau,.string ztx,.bool zdn,.bool zlo]) (#[fw .i64 yid,.int .i64 yev,.int .i64 0,.int .i64 0,.string yau,.string ytx,.bool ydn,.bool true]) m1.cls wr ((((w0.setRow (S+1+1+1+1) (#[fw .i64 yid,.int .i64 yev,.int .i64 yfrm,.int .i64 ytil,.string yau,.string ytx,.bool ydn,.bool ylo])).setCell ⟨S+1+1+1+1,2,none⟩ (.int .i64 0)).setCell ⟨S+1+1+1+1,3,none⟩ (.int .i64 0)).setCell ⟨S+1+1+1+1,7,none⟩ (.bool true)) from((((HST.out.row hGS hS (#[fw .i64 yid,.int .i64 yev,.int .i64 yfrm,.int .i64 ytil,.string yau,.string ytx,.bool ydn,.bool ylo])).set hGS hS 2 (.int .i64 0)).set hGS hS 3 (.int .i64 0)).set hGS hS 7 (.bool true)))
 have HN:=h_ (HT.out.note hGS (Nat.le_trans hB HT.out.size) (by omega) true aT)
 simp only [aT] at HN
 clear HT
 have fy:∀ j,w0.cell? ⟨S+1+1,j,none⟩=_:=fun j=>fm _ _ j _ 52 (0,0) HST.out.y
 have hb0:=HST.out.o
 clear HST
 have HB0:=h_ hb0
 have fo1:∀ j,(w0.setRow (S+1+1+1+1) (#[fw .i64 yid,.int .i64 yev,.int .i64 yfrm,.int .i64 ytil,.string yau,.string ytx,.bool ydn,.bool ylo])).cell? ⟨S+1+1+1+1,j,none⟩=_:=fun j=>fm _ _ j _ 52 (0,0) (setRow_heap _ _ _ _ _ _ hb0)
 have zo1:∀ j,(w0.setRow (S+1+1+1+1) (#[fw .i64 yid,.int .i64 yev,.int .i64 yfrm,.int .i64 ytil,.string yau,.string ytx,.bool ydn,.bool ylo])).frozen? ⟨S+1+1+1+1,j,none⟩=false:=fun j=>by simp [fp.frozen?,setRow_heap _ _ _ _ _ _ hb0]
 clear hb0
 conv=>arg 2;whnf
 go_upto_region 13 with(refine ft rfl 52 (.tmp 21) (.tmp 84) rfl (S+1+1+1+1) (#[fw .i64 yid,.int .i64 yev,.int .i64 yfrm,.int .i64 ytil,.string yau,.string ytx,.bool ydn,.bool ylo]) rfl rfl 52 _ HB0.out zbi rfl (one8 _ _ _ _ _ _ _ _) ?_)
 generalize w0.setRow (S+1+1+1+1) (#[fw .i64 yid,.int .i64 yev,.int .i64 yfrm,.int .i64 ytil,.string yau,.string ytx,.bool ydn,.bool ylo])=w1 at *
 go_wp2_with fail
 refine HN.out.mono ?_
 rintro e w2 ⟨rfl,hs_⟩
 have HA:=h_ hs_
 clear hs_ HN fy fo1 zo1
 go_wp2_with fail
 exact HFIN.out _ _ _ _ _ _ _ HA.out
theorem zi1 (m1:Mg)(B g G S b5 b6 b7 b5e b6e b7e c5 c6 c7:Nat)(id:Int)(x y z pn nn rn:Cm)(E:Bool)(wr w0:fp)(hGS:G<S)(hS:wr.heap.size≤S)(hB:B≤S)(hl:m1.cls.length≤60000)(hst:CSt m1 B g G S id x.enc.toArray y.enc.toArray z.enc.toArray x.enc.toArray m1.cls wr w0)
 (hb5:w0.heap[b5]? =some (.cells #[.map (some b5e),.map (some c5)] 148 (0,0))) (lb5:(fB 146 (.map (some c5)) (.int .i64 id) false).run Tryz.prog w0=.ok (.agg pn.enc.toArray) w0) (hb6:w0.heap[b6]? =some (.cells #[.map (some b6e),.map (some c6)] 148 (0,0))) (lb6:(fB 146 (.map (some c6)) (.int .i64 id) false).run Tryz.prog w0=.ok (.agg nn.enc.toArray) w0) (hcmp:(binOp .neq 52 (.agg nn.enc.toArray) (.agg pn.enc.toArray)).run Tryz.prog w0=.ok (.bool (!E)) w0) (Q:Exit→Act→fp→Prop) (s0 s1 s2 s3 s8 s9 s10 s11 s12 s15 s22 s23 s24 s25 s26 s27 s28 s29 s30 s31 s32 s33 s34 s35 s36 s37 s38 s39 s40 s41 s42 s43 s44 s45 s46 s47 s48 s49 s50 s51 s52 s53 s54 s55 s56 s57 s58 s59 s60 s61 s62 s63 s64 s65 s66 s67 s68 s69 s70 s71 s72 s73 s74 s75 s76 s77 s78 s79 s80 s81 s82 s83 s84 s85 s86 s87 s88 s89 s90 s91 s92 s93 s94 s95 s96 s97 s98 s99 s100 s101 s102 s103 s104 s105 s106 s107 s108 s109 s110 s111 s112 s113 s114 s115 s116 s117 s118 s119 s120 s121 s122 s123 s124 s125 s126 s127 s128 s129 s130 s131 s132 s133 s134 s135 s136 s137 s138 s139 s140 s141 s142 s143 s144 s145 s146 s147 s148 s149 s150 s151 s152 s153 s154 s155 s156 s157 s158 s159 s160 s161 s162 s163 s164 s165 s166 s167 s168 s169 s170 s171 s172 s173 s174 s175 s176 s177 s178 s179 s180 s181 s182 s183 s184 s185 s186 s187 s188 s189 s190 s191 s192 s193 s194 s195 s196 s197 s198 s199 s200 s201 s202 s203 s204 s205 s206 s207 s208 s209 s210 s211 s212 s213 s214 s215 s216 s217:fu)
 (hfin:E=false→∀ (u173 u174 u175 u176 u177 u178 u179 u180 u181 u182 u183 u184 u185 u186 u187 u188 u189 u190 u191 u192 u193 u194 u195 u196 u197 u198 u199 u200 u201 u202 u203 u204:fu) (wx:fp),CSt m1 B g G S id x.enc.toArray y.enc.toArray z.enc.toArray y.enc.toArray (m1.cls++cX id [cW]) wr wx→Q .normal { tmps:=#[s0,s1,s2,s3,.pointer (some ⟨G,0,none⟩),.pointer (some ⟨b5,0,none⟩),.pointer (some ⟨b6,0,none⟩),.pointer (some ⟨b7,0,none⟩),s8,s9,s10,s11,s12,.pointer (some ⟨S,0,none⟩),.pointer (some ⟨S+1,0,none⟩),s15,.pointer (some ⟨S+1+1,0,none⟩),.bool true,.pointer (some ⟨S+1+1+1,0,none⟩),.bool false,.func (.func 141) #[] #[.pointer (some ⟨G,0,none⟩),.pointer (some ⟨S,0,none⟩)],.pointer (some ⟨S+1+1+1+1,0,none⟩),s22,s23,s24,s25,s26,s27,s28,s29,s30,s31,s32,s33,s34,s35,s36,s37,s38,s39,s40,s41,s42,s43,s44,s45,s46,s47,s48,s49,s50,s51,s52,s53,s54,s55,s56,s57,s58,s59,s60,s61,s62,s63,s64,s65,s66,s67,s68,s69,s70,s71,s72,s73,s74,s75,s76,s77,s78,s79,s80,s81,s82,s83,s84,s85,s86,s87,s88,s89,s90,s91,s92,s93,s94,s95,s96,s97,s98,s99,s100,s101,s102,s103,s104,s105,s106,s107,s108,s109,s110,s111,s112,s113,s114,s115,s116,s117,s118,s119,s120,s121,s122,s123,s124,s125,s126,s127,s128,s129,s130,s131,s132,s133,s134,s135,s136,s137,s138,s139,s140,s141,s142,s143,s144,s145,s146,s147,s148,s149,s150,s151,s152,s153,s154,s155,s156,s157,s158,s159,s160,s161,s162,s163,s164,s165,s166,s167,s168,s169,s170,s171,s172,u173,u174,u175,u176,u177,u178,u179,u180,u181,u182,u183,u184,u185,u186,u187,u188,u189,u190,u191,u192,u193,u194,u195,u196,u197,u198,u199,u200,u201,u202,u203,u204,s205,s206,s207,s208,s209,s210,s211,s212,s213,s214,s215,s216,s217],defers:=[] } wx) (hnone:E=true→∀ (u173 u174 u175 u176 u177 u178 u179 u180 u181 u182 u183 u184 u185 u186 u187 u188 u189 u190 u191 u192 u193 u194 u195 u196 u197 u198 u199 u200 u201 u202 u203 u204:fu),Q (.exit 1) { tmps:=#[s0,s1,s2,s3,.pointer (some ⟨G,0,none⟩),.pointer (some ⟨b5,0,none⟩),.pointer (some ⟨b6,0,none⟩),.pointer (some ⟨b7,0,none⟩),s8,s9,s10,s11,s12,.pointer (some ⟨S,0,none⟩),.pointer (some ⟨S+1,0,none⟩),s15,.pointer (some ⟨S+1+1,0,none⟩),.bool true,.pointer (some ⟨S+1+1+1,0,none⟩),.bool false,.func (.func 141) #[] #[.pointer (some ⟨G,0,none⟩),.pointer (some ⟨S,0,none⟩)],.pointer (some ⟨S+1+1+1+1,0,none⟩),s22,s23,s24,s25,s26,s27,s28,s29,s30,s31,s32,s33,s34,s35,s36,s37,s38,s39,s40,s41,s42,s43,s44,s45,s46,s47,s48,s49,s50,s51,s52,s53,s54,s55,s56,s57,s58,s59,s60,s61,s62,s63,s64,s65,s66,s67,s68,s69,s70,s71,s72,s73,s74,s75,s76,s77,s78,s79,s80,s81,s82,s83,s84,s85,s86,s87,s88,s89,s90,s91,s92,s93,s94,s95,s96,s97,s98,s99,s100,s101,s102,s103,s104,s105,s106,s107,s108,s109,s110,s111,s112,s113,s114,s115,s116,s117,s118,s119,s120,s121,s122,s123,s124,s125,s126,s127,s128,s129,s130,s131,s132,s133,s134,s135,s136,s137,s138,s139,s140,s141,s142,s143,s144,s145,s146,s147,s148,s149,s150,s151,s152,s153,s154,s155,s156,s157,s158,s159,s160,s161,s162,s163,s164,s165,s166,s167,s168,s169,s170,s171,s172,u173,u174,u175,u176,u177,u178,u179,u180,u181,u182,u183,u184,u185,u186,u187,u188,u189,u190,u191,u192,u193,u194,u195,u196,u197,u198,u199,u200,u201,u202,u203,u204,s205,s206,s207,s208,s209,s210,s211,s212,s213,s214,s215,s216,s217],defers:=[] } w0) :
 Code.wp Tryz.prog ((ew 29 (Tryz.f81.body.getD .skip)).getD .skip) Q { tmps:=#[s0,s1,s2,s3,.pointer (some ⟨G,0,none⟩),.pointer (some ⟨b5,0,none⟩),.pointer (some ⟨b6,0,none⟩),.pointer (some ⟨b7,0,none⟩),s8,s9,s10,s11,s12,.pointer (some ⟨S,0,none⟩),.pointer (some ⟨S+1,0,none⟩),s15,.pointer (some ⟨S+1+1,0,none⟩),.bool true,.pointer (some ⟨S+1+1+1,0,none⟩),.bool false,.func (.func 141) #[] #[.pointer (some ⟨G,0,none⟩),.pointer (some ⟨S,0,none⟩)],.pointer (some ⟨S+1+1+1+1,0,none⟩),s22,s23,s24,s25,s26,s27,s28,s29,s30,s31,s32,s33,s34,s35,s36,s37,s38,s39,s40,s41,s42,s43,s44,s45,s46,s47,s48,s49,s50,s51,s52,s53,s54,s55,s56,s57,s58,s59,s60,s61,s62,s63,s64,s65,s66,s67,s68,s69,s70,s71,s72,s73,s74,s75,s76,s77,s78,s79,s80,s81,s82,s83,s84,s85,s86,s87,s88,s89,s90,s91,s92,s93,s94,s95,s96,s97,s98,s99,s100,s101,s102,s103,s104,s105,s106,s107,s108,s109,s110,s111,s112,s113,s114,s115,s116,s117,s118,s119,s120,s121,s122,s123,s124,s125,s126,s127,s128,s129,s130,s131,s132,s133,s134,s135,s136,s137,s138,s139,s140,s141,s142,s143,s144,s145,s146,s147,s148,s149,s150,s151,s152,s153,s154,s155,s156,s157,s158,s159,s160,s161,s162,s163,s164,s165,s166,s167,s168,s169,s170,s171,s172,s173,s174,s175,s176,s177,s178,s179,s180,s181,s182,s183,s184,s185,s186,s187,s188,s189,s190,s191,s192,s193,s194,s195,s196,s197,s198,s199,s200,s201,s202,s203,s204,s205,s206,s207,s208,s209,s210,s211,s212,s213,s214,s215,s216,s217],defers:=[] } w0:=by
 have HNONE:=h_ hnone
 have HST:=h_ hst
 have HFIN:=h_ hfin
 clear hfin
 obtain⟨xid,xev,xfrm,xtil,xau,xtx,xdn,xlo⟩:=x
 obtain⟨yid,yev,yfrm,ytil,yau,ytx,ydn,ylo⟩:=y
 obtain⟨zid,zev,zfrm,ztil,zau,ztx,zdn,zlo⟩:=z
 generalize pn.enc.toArray=PA at *
 generalize nn.enc.toArray=NA at *
 simp only [Cm.enc] at *
 have HL5:=h_ lb5
 have HL6:=h_ lb6
 have HCM:=h_ hcmp
 clear hnone hst lb5 hcmp lb6
 have HT:=h_ (show CSt m1 B g G S id (#[fw .i64 xid,.int .i64 xev,.int .i64 xfrm,.int .i64 xtil,.string xau,.string xtx,.bool xdn,.bool xlo]) (#[fw .i64 yid,.int .i64 yev,.int .i64 yfrm,.int .i64 ytil,.string yau,.string ytx,.bool ydn,.bool ylo]) (#[fw .i64 zid,.int .i64 zev,.int .i64 zfrm,.int .i64 ztil,.string zau,.string ztx,.bool zdn,.bool zlo]) (#[fw .i64 yid,.int .i64 yev,.int .i64 yfrm,.int .i64 ytil,.string yau,.string ytx,.bool ydn,.bool ylo]) m1.cls wr (w0.setRow (S+1+1+1+1) (#[fw .i64 yid,.int .i64 yev,.int .i64 yfrm,.int .i64 ytil,.string yau,.string ytx,.bool ydn,.bool ylo])) from(HST.out.row hGS hS (#[fw .i64 yid,.int .i64 yev,.int .i64 yfrm,.int .i64 ytil,.string yau,.string ytx,.bool ydn,.bool ylo])))
 have HN:=h_ (HT.out.note hGS (Nat.le_trans hB HT.out.size) (by omega) true cW)
 simp only [cW] at HN
 clear HT
 have fq:∀ j,w0.cell? ⟨S+1+1,j,none⟩=_:=fun j=>fm _ _ j _ 52 (0,0) HST.out.y
 have HB0:=h_ HST.out.o
 have fi:∀ j,w0.cell? ⟨S,j,none⟩=_:=fun j=>fm _ _ j _ 2 (0,0) HST.out.i
 have f5:∀ j,w0.cell? ⟨b5,j,none⟩=_:=fun j=>fm _ _ j _ 148 (0,0) hb5
 have f6:∀ j,w0.cell? ⟨b6,j,none⟩=_:=fun j=>fm _ _ j _ 148 (0,0) hb6
 clear HST
 conv=>arg 2;whnf
 cases E with
 | true =>
   have HE:=h_ (HNONE.out rfl)
   clear HNONE HFIN HN
   go_upto_region 29 with fail
   go_step
   refine aC (v:=.bool true) (by rfl) (by go_simp) ?_
   try simp only [fC,fG,fE,fF,fD,fH,fI,fJ]
   refine aC (v:=.bool true) (by rfl) (by go_simp) ?_
   try simp only [fC,fG,fE,fF,fD,fH,fI,fJ]
   refine aC (v:=.pointer (some ⟨b6,1,none⟩)) (by rfl) (by go_simp) ?_
   try simp only [fC,fG,fE,fF,fD,fH,fI,fJ]
   refine aC (v:=.map (some c6)) (by rfl) (by go_simp) ?_
   try simp only [fC,fG,fE,fF,fD,fH,fI,fJ]
   refine aC (v:=.int .i64 id) (by rfl) (by go_simp) ?_
   try simp only [fC,fG,fE,fF,fD,fH,fI,fJ]
   refine cM (.tmp 177) (.tmp 178) 146 rfl (mv:=.map (some c6)) (key:=.int .i64 id) (v:=.agg NA) rfl rfl HL6.out (by rfl) ?_
   try simp only [fC,fG,fE,fF,fD,fH,fI,fJ]
   refine aC (v:=.pointer (some ⟨b5,1,none⟩)) (by rfl) (by go_simp) ?_
   try simp only [fC,fG,fE,fF,fD,fH,fI,fJ]
   refine aC (v:=.map (some c5)) (by rfl) (by go_simp) ?_
   try simp only [fC,fG,fE,fF,fD,fH,fI,fJ]
   refine aC (v:=.int .i64 id) (by rfl) (by go_simp) ?_
   try simp only [fC,fG,fE,fF,fD,fH,fI,fJ]
   refine cM (.tmp 181) (.tmp 182) 146 rfl (mv:=.map (some c5)) (key:=.int .i64 id) (v:=.agg PA) rfl rfl HL5.out (by rfl) ?_
   try simp only [fC,fG,fE,fF,fD,fH,fI,fJ]
   refine zgC (.tmp 179) (.tmp 183) rfl (X:=NA) (Y:=PA) (r:=false) rfl rfl HCM.out (by rfl) ?_
   try simp only [fC,fG,fE,fF,fD,fH,fI,fJ]
   refine aC (v:=.bool false) (by rfl) (by go_simp) ?_
   try simp only [fC,fG,fE,fF,fD,fH,fI,fJ]
   refine aC (v:=.bool false) (by rfl) (by go_simp) ?_
   try simp only [fC,fG,fE,fF,fD,fH,fI,fJ]
   go_wp2_with fail
   exact HE.out _ _ _ _ _ _ _ _ _ _ _ _ _ _ _ _ _ _ _ _ _ _ _ _ _ _ _ _ _ _ _ _
 | false =>
   have HE:=h_ (HFIN.out rfl)
   clear HNONE HFIN
   skip
   go_upto_region 29 with fail
   go_step
   refine aC (v:=.bool true) (by rfl) (by go_simp) ?_
   try simp only [fC,fG,fE,fF,fD,fH,fI,fJ]
   refine aC (v:=.bool true) (by rfl) (by go_simp) ?_
   try simp only [fC,fG,fE,fF,fD,fH,fI,fJ]
   refine aC (v:=.pointer (some ⟨b6,1,none⟩)) (by rfl) (by go_simp) ?_
   try simp only [fC,fG,fE,fF,fD,fH,fI,fJ]
   refine aC (v:=.map (some c6)) (by rfl) (by go_simp) ?_
   try simp only [fC,fG,fE,fF,fD,fH,fI,fJ]
   refine aC (v:=.int .i64 id) (by rfl) (by go_simp) ?_
   try simp only [fC,fG,fE,fF,fD,fH,fI,fJ]
   refine cM (.tmp 177) (.tmp 178) 146 rfl (mv:=.map (some c6)) (key:=.int .i64 id) (v:=.agg NA) rfl rfl HL6.out (by rfl) ?_
   try simp only [fC,fG,fE,fF,fD,fH,fI,fJ]
   refine aC (v:=.pointer (some ⟨b5,1,none⟩)) (by rfl) (by go_simp) ?_
   try simp only [fC,fG,fE,fF,fD,fH,fI,fJ]
   refine aC (v:=.map (some c5)) (by rfl) (by go_simp) ?_
   try simp only [fC,fG,fE,fF,fD,fH,fI,fJ]
   refine aC (v:=.int .i64 id) (by rfl) (by go_simp) ?_
   try simp only [fC,fG,fE,fF,fD,fH,fI,fJ]
   refine cM (.tmp 181) (.tmp 182) 146 rfl (mv:=.map (some c5)) (key:=.int .i64 id) (v:=.agg PA) rfl rfl HL5.out (by rfl) ?_
   try simp only [fC,fG,fE,fF,fD,fH,fI,fJ]
   refine zgC (.tmp 179) (.tmp 183) rfl (X:=NA) (Y:=PA) (r:=true) rfl rfl HCM.out (by rfl) ?_
   try simp only [fC,fG,fE,fF,fD,fH,fI,fJ]
   refine aC (v:=.bool true) (by rfl) (by go_simp) ?_
   try simp only [fC,fG,fE,fF,fD,fH,fI,fJ]
   refine aC (v:=.bool true) (by rfl) (by go_simp) ?_
   try simp only [fC,fG,fE,fF,fD,fH,fI,fJ]
   go_upto_region 31 with(refine ft rfl 52 (.tmp 21) (.tmp 186) rfl (S+1+1+1+1) (#[fw .i64 yid,.int .i64 yev,.int .i64 yfrm,.int .i64 ytil,.string yau,.string ytx,.bool ydn,.bool ylo]) rfl rfl 52 _ HB0.out zbi rfl (one8 _ _ _ _ _ _ _ _) ?_)
   generalize w0.setRow (S+1+1+1+1) (#[fw .i64 yid,.int .i64 yev,.int .i64 yfrm,.int .i64 ytil,.string yau,.string ytx,.bool ydn,.bool ylo])=w3 at *
   go_wp2_with fail
   refine HN.out.mono ?_
   rintro e w1 ⟨rfl,hs_⟩
   have HA:=h_ hs_
   clear hs_ HN
   go_wp2_with fail
   exact HE.out _ _ _ _ _ _ _ _ _ _ _ _ _ _ _ _ _ _ _ _ _ _ _ _ _ _ _ _ _ _ _ _ _ HA.out
theorem zi0 (m1:Mg)(B g G S b5 b6 b7 b5e b6e b7e c5 c6 c7:Nat)(id:Int)(x y z pn nn rn:Cm)(E:Bool)(wr w0:fp)(hGS:G<S)(hS:wr.heap.size≤S)(hB:B≤S)(hl:m1.cls.length≤60000)(hst:CSt m1 B g G S id x.enc.toArray y.enc.toArray z.enc.toArray x.enc.toArray m1.cls wr w0)
 (hb5:w0.heap[b5]? =some (.cells #[.map (some b5e),.map (some c5)] 148 (0,0))) (lb5:(fB 146 (.map (some c5)) (.int .i64 id) false).run Tryz.prog w0=.ok (.agg pn.enc.toArray) w0) (hb7:w0.heap[b7]? =some (.cells #[.map (some b7e),.map (some c7)] 148 (0,0))) (lb7:(fB 146 (.map (some c7)) (.int .i64 id) false).run Tryz.prog w0=.ok (.agg rn.enc.toArray) w0) (hcmp:(binOp .neq 52 (.agg rn.enc.toArray) (.agg pn.enc.toArray)).run Tryz.prog w0=.ok (.bool (!E)) w0) (Q:Exit→Act→fp→Prop) (s0 s1 s2 s3 s8 s9 s10 s11 s12 s15 s22 s23 s24 s25 s26 s27 s28 s29 s30 s31 s32 s33 s34 s35 s36 s37 s38 s39 s40 s41 s42 s43 s44 s45 s46 s47 s48 s49 s50 s51 s52 s53 s54 s55 s56 s57 s58 s59 s60 s61 s62 s63 s64 s65 s66 s67 s68 s69 s70 s71 s72 s73 s74 s75 s76 s77 s78 s79 s80 s81 s82 s83 s84 s85 s86 s87 s88 s89 s90 s91 s92 s93 s94 s95 s96 s97 s98 s99 s100 s101 s102 s103 s104 s105 s106 s107 s108 s109 s110 s111 s112 s113 s114 s115 s116 s117 s118 s119 s120 s121 s122 s123 s124 s125 s126 s127 s128 s129 s130 s131 s132 s133 s134 s135 s136 s137 s138 s139 s140 s141 s142 s143 s144 s145 s146 s147 s148 s149 s150 s151 s152 s153 s154 s155 s156 s157 s158 s159 s160 s161 s162 s163 s164 s165 s166 s167 s168 s169 s170 s171 s172 s173 s174 s175 s176 s177 s178 s179 s180 s181 s182 s183 s184 s185 s186 s187 s188 s189 s190 s191 s192 s193 s194 s195 s196 s197 s198 s199 s200 s201 s202 s203 s204 s205 s206 s207 s208 s209 s210 s211 s212 s213 s214 s215 s216 s217:fu)
 (hfin:E=false→∀ (u173 u174 u175 u176 u177 u178 u179 u180 u181 u182 u183 u184 u185 u186 u187 u188 u189 u190 u191 u192 u193 u194 u195 u196 u197 u198 u199 u200 u201 u202 u203 u204:fu) (wx:fp),CSt m1 B g G S id x.enc.toArray y.enc.toArray z.enc.toArray z.enc.toArray (m1.cls++cX id [cW]) wr wx→Q .normal { tmps:=#[s0,s1,s2,s3,.pointer (some ⟨G,0,none⟩),.pointer (some ⟨b5,0,none⟩),.pointer (some ⟨b6,0,none⟩),.pointer (some ⟨b7,0,none⟩),s8,s9,s10,s11,s12,.pointer (some ⟨S,0,none⟩),.pointer (some ⟨S+1,0,none⟩),s15,.pointer (some ⟨S+1+1,0,none⟩),.bool false,.pointer (some ⟨S+1+1+1,0,none⟩),.bool true,.func (.func 141) #[] #[.pointer (some ⟨G,0,none⟩),.pointer (some ⟨S,0,none⟩)],.pointer (some ⟨S+1+1+1+1,0,none⟩),s22,s23,s24,s25,s26,s27,s28,s29,s30,s31,s32,s33,s34,s35,s36,s37,s38,s39,s40,s41,s42,s43,s44,s45,s46,s47,s48,s49,s50,s51,s52,s53,s54,s55,s56,s57,s58,s59,s60,s61,s62,s63,s64,s65,s66,s67,s68,s69,s70,s71,s72,s73,s74,s75,s76,s77,s78,s79,s80,s81,s82,s83,s84,s85,s86,s87,s88,s89,s90,s91,s92,s93,s94,s95,s96,s97,s98,s99,s100,s101,s102,s103,s104,s105,s106,s107,s108,s109,s110,s111,s112,s113,s114,s115,s116,s117,s118,s119,s120,s121,s122,s123,s124,s125,s126,s127,s128,s129,s130,s131,s132,s133,s134,s135,s136,s137,s138,s139,s140,s141,s142,s143,s144,s145,s146,s147,s148,s149,s150,s151,s152,s153,s154,s155,s156,s157,s158,s159,s160,s161,s162,s163,s164,s165,s166,s167,s168,s169,s170,s171,s172,u173,u174,u175,u176,u177,u178,u179,u180,u181,u182,u183,u184,u185,u186,u187,u188,u189,u190,u191,u192,u193,u194,u195,u196,u197,u198,u199,u200,u201,u202,u203,u204,s205,s206,s207,s208,s209,s210,s211,s212,s213,s214,s215,s216,s217],defers:=[] } wx) (hnone:E=true→∀ (u173 u174 u175 u176 u177 u178 u179 u180 u181 u182 u183 u184 u185 u186 u187 u188 u189 u190 u191 u192 u193 u194 u195 u196 u197 u198 u199 u200 u201 u202 u203 u204:fu),Q (.exit 1) { tmps:=#[s0,s1,s2,s3,.pointer (some ⟨G,0,none⟩),.pointer (some ⟨b5,0,none⟩),.pointer (some ⟨b6,0,none⟩),.pointer (some ⟨b7,0,none⟩),s8,s9,s10,s11,s12,.pointer (some ⟨S,0,none⟩),.pointer (some ⟨S+1,0,none⟩),s15,.pointer (some ⟨S+1+1,0,none⟩),.bool false,.pointer (some ⟨S+1+1+1,0,none⟩),.bool true,.func (.func 141) #[] #[.pointer (some ⟨G,0,none⟩),.pointer (some ⟨S,0,none⟩)],.pointer (some ⟨S+1+1+1+1,0,none⟩),s22,s23,s24,s25,s26,s27,s28,s29,s30,s31,s32,s33,s34,s35,s36,s37,s38,s39,s40,s41,s42,s43,s44,s45,s46,s47,s48,s49,s50,s51,s52,s53,s54,s55,s56,s57,s58,s59,s60,s61,s62,s63,s64,s65,s66,s67,s68,s69,s70,s71,s72,s73,s74,s75,s76,s77,s78,s79,s80,s81,s82,s83,s84,s85,s86,s87,s88,s89,s90,s91,s92,s93,s94,s95,s96,s97,s98,s99,s100,s101,s102,s103,s104,s105,s106,s107,s108,s109,s110,s111,s112,s113,s114,s115,s116,s117,s118,s119,s120,s121,s122,s123,s124,s125,s126,s127,s128,s129,s130,s131,s132,s133,s134,s135,s136,s137,s138,s139,s140,s141,s142,s143,s144,s145,s146,s147,s148,s149,s150,s151,s152,s153,s154,s155,s156,s157,s158,s159,s160,s161,s162,s163,s164,s165,s166,s167,s168,s169,s170,s171,s172,u173,u174,u175,u176,u177,u178,u179,u180,u181,u182,u183,u184,u185,u186,u187,u188,u189,u190,u191,u192,u193,u194,u195,u196,u197,u198,u199,u200,u201,u202,u203,u204,s205,s206,s207,s208,s209,s210,s211,s212,s213,s214,s215,s216,s217],defers:=[] } w0) :
 Code.wp Tryz.prog ((ew 29 (Tryz.f81.body.getD .skip)).getD .skip) Q { tmps:=#[s0,s1,s2,s3,.pointer (some ⟨G,0,none⟩),.pointer (some ⟨b5,0,none⟩),.pointer (some ⟨b6,0,none⟩),.pointer (some ⟨b7,0,none⟩),s8,s9,s10,s11,s12,.pointer (some ⟨S,0,none⟩),.pointer (some ⟨S+1,0,none⟩),s15,.pointer (some ⟨S+1+1,0,none⟩),.bool false,.pointer (some ⟨S+1+1+1,0,none⟩),.bool true,.func (.func 141) #[] #[.pointer (some ⟨G,0,none⟩),.pointer (some ⟨S,0,none⟩)],.pointer (some ⟨S+1+1+1+1,0,none⟩),s22,s23,s24,s25,s26,s27,s28,s29,s30,s31,s32,s33,s34,s35,s36,s37,s38,s39,s40,s41,s42,s43,s44,s45,s46,s47,s48,s49,s50,s51,s52,s53,s54,s55,s56,s57,s58,s59,s60,s61,s62,s63,s64,s65,s66,s67,s68,s69,s70,s71,s72,s73,s74,s75,s76,s77,s78,s79,s80,s81,s82,s83,s84,s85,s86,s87,s88,s89,s90,s91,s92,s93,s94,s95,s96,s97,s98,s99,s100,s101,s102,s103,s104,s105,s106,s107,s108,s109,s110,s111,s112,s113,s114,s115,s116,s117,s118,s119,s120,s121,s122,s123,s124,s125,s126,s127,s128,s129,s130,s131,s132,s133,s134,s135,s136,s137,s138,s139,s140,s141,s142,s143,s144,s145,s146,s147,s148,s149,s150,s151,s152,s153,s154,s155,s156,s157,s158,s159,s160,s161,s162,s163,s164,s165,s166,s167,s168,s169,s170,s171,s172,s173,s174,s175,s176,s177,s178,s179,s180,s181,s182,s183,s184,s185,s186,s187,s188,s189,s190,s191,s192,s193,s194,s195,s196,s197,s198,s199,s200,s201,s202,s203,s204,s205,s206,s207,s208,s209,s210,s211,s212,s213,s214,s215,s216,s217],defers:=[] } w0:=by
 have HNONE:=h_ hnone
 have HST:=h_ hst
 have HFIN:=h_ hfin
 clear hfin
 obtain⟨xid,xev,xfrm,xtil,xau,xtx,xdn,xlo⟩:=x
 obtain⟨yid,yev,yfrm,ytil,yau,ytx,ydn,ylo⟩:=y
 obtain⟨zid,zev,zfrm,ztil,zau,ztx,zdn,zlo⟩:=z
 generalize pn.enc.toArray=PA at *
 generalize rn.enc.toArray=NA at *
 simp only [Cm.enc] at *
 have HL5:=h_ lb5
 have HL6:=h_ lb7
 have HCM:=h_ hcmp
 clear hnone hst lb5 hcmp lb7
 have HT:=h_ (show CSt m1 B g G S id (#[fw .i64 xid,.int .i64 xev,.int .i64 xfrm,.int .i64 xtil,.string xau,.string xtx,.bool xdn,.bool xlo]) (#[fw .i64 yid,.int .i64 yev,.int .i64 yfrm,.int .i64 ytil,.string yau,.string ytx,.bool ydn,.bool ylo]) (#[fw .i64 zid,.int .i64 zev,.int .i64 zfrm,.int .i64 ztil,.string zau,.string ztx,.bool zdn,.bool zlo]) (#[fw .i64 zid,.int .i64 zev,.int .i64 zfrm,.int .i64 ztil,.string zau,.string ztx,.bool zdn,.bool zlo]) m1.cls wr (w0.setRow (S+1+1+1+1) (#[fw .i64 zid,.int .i64 zev,.int .i64 zfrm,.int .i64 ztil,.string zau,.string ztx,.bool zdn,.bool zlo])) from(HST.out.row hGS hS (#[fw .i64 zid,.int .i64 zev,.int .i64 zfrm,.int .i64 ztil,.string zau,.string ztx,.bool zdn,.bool zlo])))
 have HN:=h_ (HT.out.note hGS (Nat.le_trans hB HT.out.size) (by omega) true cW)
 simp only [cW] at HN
 clear HT
 have fq:∀ j,w0.cell? ⟨S+1+1+1,j,none⟩=_:=fun j=>fm _ _ j _ 52 (0,0) HST.out.z
 have HB0:=h_ HST.out.o
 have fi:∀ j,w0.cell? ⟨S,j,none⟩=_:=fun j=>fm _ _ j _ 2 (0,0) HST.out.i
 have f5:∀ j,w0.cell? ⟨b5,j,none⟩=_:=fun j=>fm _ _ j _ 148 (0,0) hb5
 have f6:∀ j,w0.cell? ⟨b7,j,none⟩=_:=fun j=>fm _ _ j _ 148 (0,0) hb7
 clear HST
 conv=>arg 2;whnf
 cases E with
 | true =>
   have HE:=h_ (HNONE.out rfl)
   clear HNONE HFIN HN
   go_upto_region 32 with fail
   go_step
   refine aC (v:=.bool true) (by rfl) (by go_simp) ?_
   try simp only [fC,fG,fE,fF,fD,fH,fI,fJ]
   refine aC (v:=.bool true) (by rfl) (by go_simp) ?_
   try simp only [fC,fG,fE,fF,fD,fH,fI,fJ]
   refine aC (v:=.pointer (some ⟨b7,1,none⟩)) (by rfl) (by go_simp) ?_
   try simp only [fC,fG,fE,fF,fD,fH,fI,fJ]
   refine aC (v:=.map (some c7)) (by rfl) (by go_simp) ?_
   try simp only [fC,fG,fE,fF,fD,fH,fI,fJ]
   refine aC (v:=.int .i64 id) (by rfl) (by go_simp) ?_
   try simp only [fC,fG,fE,fF,fD,fH,fI,fJ]
   refine cM (.tmp 193) (.tmp 194) 146 rfl (mv:=.map (some c7)) (key:=.int .i64 id) (v:=.agg NA) rfl rfl HL6.out (by rfl) ?_
   try simp only [fC,fG,fE,fF,fD,fH,fI,fJ]
   refine aC (v:=.pointer (some ⟨b5,1,none⟩)) (by rfl) (by go_simp) ?_
   try simp only [fC,fG,fE,fF,fD,fH,fI,fJ]
   refine aC (v:=.map (some c5)) (by rfl) (by go_simp) ?_
   try simp only [fC,fG,fE,fF,fD,fH,fI,fJ]
   refine aC (v:=.int .i64 id) (by rfl) (by go_simp) ?_
   try simp only [fC,fG,fE,fF,fD,fH,fI,fJ]
   refine cM (.tmp 197) (.tmp 198) 146 rfl (mv:=.map (some c5)) (key:=.int .i64 id) (v:=.agg PA) rfl rfl HL5.out (by rfl) ?_
   try simp only [fC,fG,fE,fF,fD,fH,fI,fJ]
   refine zgC (.tmp 195) (.tmp 199) rfl (X:=NA) (Y:=PA) (r:=false) rfl rfl HCM.out (by rfl) ?_
   try simp only [fC,fG,fE,fF,fD,fH,fI,fJ]
   refine aC (v:=.bool false) (by rfl) (by go_simp) ?_
   try simp only [fC,fG,fE,fF,fD,fH,fI,fJ]
   refine aC (v:=.bool false) (by rfl) (by go_simp) ?_
   try simp only [fC,fG,fE,fF,fD,fH,fI,fJ]
   go_wp2_with fail
   exact HE.out _ _ _ _ _ _ _ _ _ _ _ _ _ _ _ _ _ _ _ _ _ _ _ _ _ _ _ _ _ _ _ _
 | false =>
   have HE:=h_ (HFIN.out rfl)
   clear HNONE HFIN
   skip
   go_upto_region 32 with fail
   go_step
   refine aC (v:=.bool true) (by rfl) (by go_simp) ?_
   try simp only [fC,fG,fE,fF,fD,fH,fI,fJ]
   refine aC (v:=.bool true) (by rfl) (by go_simp) ?_
   try simp only [fC,fG,fE,fF,fD,fH,fI,fJ]
   refine aC (v:=.pointer (some ⟨b7,1,none⟩)) (by rfl) (by go_simp) ?_
   try simp only [fC,fG,fE,fF,fD,fH,fI,fJ]
   refine aC (v:=.map (some c7)) (by rfl) (by go_simp) ?_
   try simp only [fC,fG,fE,fF,fD,fH,fI,fJ]
   refine aC (v:=.int .i64 id) (by rfl) (by go_simp) ?_
   try simp only [fC,fG,fE,fF,fD,fH,fI,fJ]
   refine cM (.tmp 193) (.tmp 194) 146 rfl (mv:=.map (some c7)) (key:=.int .i64 id) (v:=.agg NA) rfl rfl HL6.out (by rfl) ?_
   try simp only [fC,fG,fE,fF,fD,fH,fI,fJ]
   refine aC (v:=.pointer (some ⟨b5,1,none⟩)) (by rfl) (by go_simp) ?_
   try simp only [fC,fG,fE,fF,fD,fH,fI,fJ]
   refine aC (v:=.map (some c5)) (by rfl) (by go_simp) ?_
   try simp only [fC,fG,fE,fF,fD,fH,fI,fJ]
   refine aC (v:=.int .i64 id) (by rfl) (by go_simp) ?_
   try simp only [fC,fG,fE,fF,fD,fH,fI,fJ]
   refine cM (.tmp 197) (.tmp 198) 146 rfl (mv:=.map (some c5)) (key:=.int .i64 id) (v:=.agg PA) rfl rfl HL5.out (by rfl) ?_
   try simp only [fC,fG,fE,fF,fD,fH,fI,fJ]
   refine zgC (.tmp 195) (.tmp 199) rfl (X:=NA) (Y:=PA) (r:=true) rfl rfl HCM.out (by rfl) ?_
   try simp only [fC,fG,fE,fF,fD,fH,fI,fJ]
   refine aC (v:=.bool true) (by rfl) (by go_simp) ?_
   try simp only [fC,fG,fE,fF,fD,fH,fI,fJ]
   refine aC (v:=.bool true) (by rfl) (by go_simp) ?_
   try simp only [fC,fG,fE,fF,fD,fH,fI,fJ]
   go_upto_region 34 with(refine ft rfl 52 (.tmp 21) (.tmp 202) rfl (S+1+1+1+1) (#[fw .i64 zid,.int .i64 zev,.int .i64 zfrm,.int .i64 ztil,.string zau,.string ztx,.bool zdn,.bool zlo]) rfl rfl 52 _ HB0.out zbi rfl (one8 _ _ _ _ _ _ _ _) ?_)
   generalize w0.setRow (S+1+1+1+1) (#[fw .i64 zid,.int .i64 zev,.int .i64 zfrm,.int .i64 ztil,.string zau,.string ztx,.bool zdn,.bool zlo])=w3 at *
   go_wp2_with fail
   refine HN.out.mono ?_
   rintro e w1 ⟨rfl,hs_⟩
   have HA:=h_ hs_
   clear hs_ HN
   go_wp2_with fail
   exact HE.out _ _ _ _ _ _ _ _ _ _ _ _ _ _ _ _ _ _ _ _ _ _ _ _ _ _ _ _ _ _ _ _ _ HA.out
theorem ziZ (m1:Mg)(B g G S b5 b6 b7 b5e b6e b7e c5 c6 c7:Nat)(id:Int)(x y z pn nn rn:Cm)(E:Bool)(wr w0:fp)(hGS:G<S)(hS:wr.heap.size≤S)(hB:B≤S)(hl:m1.cls.length≤60000)(hst:CSt m1 B g G S id x.enc.toArray y.enc.toArray z.enc.toArray x.enc.toArray m1.cls wr w0)
 (hb5:w0.heap[b5]? =some (.cells #[.map (some b5e),.map (some c5)] 148 (0,0))) (lb5:(fB 146 (.map (some c5)) (.int .i64 id) false).run Tryz.prog w0=.ok (.agg pn.enc.toArray) w0) (Q:Exit→Act→fp→Prop) (s0 s1 s2 s3 s8 s9 s10 s11 s12 s15 s22 s23 s24 s25 s26 s27 s28 s29 s30 s31 s32 s33 s34 s35 s36 s37 s38 s39 s40 s41 s42 s43 s44 s45 s46 s47 s48 s49 s50 s51 s52 s53 s54 s55 s56 s57 s58 s59 s60 s61 s62 s63 s64 s65 s66 s67 s68 s69 s70 s71 s72 s73 s74 s75 s76 s77 s78 s79 s80 s81 s82 s83 s84 s85 s86 s87 s88 s89 s90 s91 s92 s93 s94 s95 s96 s97 s98 s99 s100 s101 s102 s103 s104 s105 s106 s107 s108 s109 s110 s111 s112 s113 s114 s115 s116 s117 s118 s119 s120 s121 s122 s123 s124 s125 s126 s127 s128 s129 s130 s131 s132 s133 s134 s135 s136 s137 s138 s139 s140 s141 s142 s143 s144 s145 s146 s147 s148 s149 s150 s151 s152 s153 s154 s155 s156 s157 s158 s159 s160 s161 s162 s163 s164 s165 s166 s167 s168 s169 s170 s171 s172 s173 s174 s175 s176 s177 s178 s179 s180 s181 s182 s183 s184 s185 s186 s187 s188 s189 s190 s191 s192 s193 s194 s195 s196 s197 s198 s199 s200 s201 s202 s203 s204 s205 s206 s207 s208 s209 s210 s211 s212 s213 s214 s215 s216 s217:fu)
 (hnone:∀ (u173 u174 u175 u176 u177 u178 u179 u180 u181 u182 u183 u184 u185 u186 u187 u188 u189 u190 u191 u192 u193 u194 u195 u196 u197 u198 u199 u200 u201 u202 u203 u204:fu),Q (.exit 1) { tmps:=#[s0,s1,s2,s3,.pointer (some ⟨G,0,none⟩),.pointer (some ⟨b5,0,none⟩),.pointer (some ⟨b6,0,none⟩),.pointer (some ⟨b7,0,none⟩),s8,s9,s10,s11,s12,.pointer (some ⟨S,0,none⟩),.pointer (some ⟨S+1,0,none⟩),s15,.pointer (some ⟨S+1+1,0,none⟩),.bool false,.pointer (some ⟨S+1+1+1,0,none⟩),.bool false,.func (.func 141) #[] #[.pointer (some ⟨G,0,none⟩),.pointer (some ⟨S,0,none⟩)],.pointer (some ⟨S+1+1+1+1,0,none⟩),s22,s23,s24,s25,s26,s27,s28,s29,s30,s31,s32,s33,s34,s35,s36,s37,s38,s39,s40,s41,s42,s43,s44,s45,s46,s47,s48,s49,s50,s51,s52,s53,s54,s55,s56,s57,s58,s59,s60,s61,s62,s63,s64,s65,s66,s67,s68,s69,s70,s71,s72,s73,s74,s75,s76,s77,s78,s79,s80,s81,s82,s83,s84,s85,s86,s87,s88,s89,s90,s91,s92,s93,s94,s95,s96,s97,s98,s99,s100,s101,s102,s103,s104,s105,s106,s107,s108,s109,s110,s111,s112,s113,s114,s115,s116,s117,s118,s119,s120,s121,s122,s123,s124,s125,s126,s127,s128,s129,s130,s131,s132,s133,s134,s135,s136,s137,s138,s139,s140,s141,s142,s143,s144,s145,s146,s147,s148,s149,s150,s151,s152,s153,s154,s155,s156,s157,s158,s159,s160,s161,s162,s163,s164,s165,s166,s167,s168,s169,s170,s171,s172,u173,u174,u175,u176,u177,u178,u179,u180,u181,u182,u183,u184,u185,u186,u187,u188,u189,u190,u191,u192,u193,u194,u195,u196,u197,u198,u199,u200,u201,u202,u203,u204,s205,s206,s207,s208,s209,s210,s211,s212,s213,s214,s215,s216,s217],defers:=[] } w0) :
 Code.wp Tryz.prog ((ew 29 (Tryz.f81.body.getD .skip)).getD .skip) Q { tmps:=#[s0,s1,s2,s3,.pointer (some ⟨G,0,none⟩),.pointer (some ⟨b5,0,none⟩),.pointer (some ⟨b6,0,none⟩),.pointer (some ⟨b7,0,none⟩),s8,s9,s10,s11,s12,.pointer (some ⟨S,0,none⟩),.pointer (some ⟨S+1,0,none⟩),s15,.pointer (some ⟨S+1+1,0,none⟩),.bool false,.pointer (some ⟨S+1+1+1,0,none⟩),.bool false,.func (.func 141) #[] #[.pointer (some ⟨G,0,none⟩),.pointer (some ⟨S,0,none⟩)],.pointer (some ⟨S+1+1+1+1,0,none⟩),s22,s23,s24,s25,s26,s27,s28,s29,s30,s31,s32,s33,s34,s35,s36,s37,s38,s39,s40,s41,s42,s43,s44,s45,s46,s47,s48,s49,s50,s51,s52,s53,s54,s55,s56,s57,s58,s59,s60,s61,s62,s63,s64,s65,s66,s67,s68,s69,s70,s71,s72,s73,s74,s75,s76,s77,s78,s79,s80,s81,s82,s83,s84,s85,s86,s87,s88,s89,s90,s91,s92,s93,s94,s95,s96,s97,s98,s99,s100,s101,s102,s103,s104,s105,s106,s107,s108,s109,s110,s111,s112,s113,s114,s115,s116,s117,s118,s119,s120,s121,s122,s123,s124,s125,s126,s127,s128,s129,s130,s131,s132,s133,s134,s135,s136,s137,s138,s139,s140,s141,s142,s143,s144,s145,s146,s147,s148,s149,s150,s151,s152,s153,s154,s155,s156,s157,s158,s159,s160,s161,s162,s163,s164,s165,s166,s167,s168,s169,s170,s171,s172,s173,s174,s175,s176,s177,s178,s179,s180,s181,s182,s183,s184,s185,s186,s187,s188,s189,s190,s191,s192,s193,s194,s195,s196,s197,s198,s199,s200,s201,s202,s203,s204,s205,s206,s207,s208,s209,s210,s211,s212,s213,s214,s215,s216,s217],defers:=[] } w0:=by
 have HNONE:=h_ hnone
 have HST:=h_ hst
 obtain⟨xid,xev,xfrm,xtil,xau,xtx,xdn,xlo⟩:=x
 obtain⟨yid,yev,yfrm,ytil,yau,ytx,ydn,ylo⟩:=y
 obtain⟨zid,zev,zfrm,ztil,zau,ztx,zdn,zlo⟩:=z
 generalize pn.enc.toArray=PA at *
 simp only [Cm.enc] at *
 have HL5:=h_ lb5
 clear hnone hst lb5 
 clear HST hb5 HL5
 conv=>arg 2;whnf
 go_wp2_with fail
 exact HNONE.out _ _ _ _ _ _ _ _ _ _ _ _ _ _ _ _ _ _ _ _ _ _ _ _ _ _ _ _ _ _ _ _
end Go.Proofs.YtnlnmbcaongehaaGreatDoor
