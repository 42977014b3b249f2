/- document.Follow: a comment moved from one text to another. The contract of diff.changed at regions, events, comments. edit: commands in memory; within, unless, the bits of a command's fields, the errors of its text and of its rows. -/
import Derived.Test.YtjebaagkomejaaaGreatDoorH14
import Derived.Test.YtjebaagkomejaaaGreatDoorH15
import Derived.Test.YtjebaagkomejaaaGreatDoorH16
set_option linter.unusedVariables false
set_option linter.unusedSimpArgs false
set_option maxRecDepth 100000
set_option maxHeartbeats 12800000
open Go.Lib renaming hid→h_
open Go renaming World→Sh,heap_alloc_last→Si,heap_alloc_old→Sj,Value→Sk,Calls→Sl,setRow_heap→Sm
open Go.RowKit renaming Below→Sn
open Go.World renaming size_alloc→Sp,cell?_alloc_lt→Sq
open List renaming getElem?_eq_some_iff→Sr,length_map→Ss,getElem?_eq_getElem→St,getElem_of_mem→Su,take_length→Sv,mem_append→Sw,find?_cons→Sx
open Go.RowKit.Below renaming refl→Sy
open Nat renaming le_refl→Sz,zero_le→SA,zero_add→SB,lt_of_lt_of_le→SC
open Array renaming getElem?_eq_some_iff→SD
open Go.Value renaming slice→SF,bool→SG,ownBlock→SH
open Go.Result renaming ok→SI
open Go.Next renaming value→SJ
open Option.some renaming inj→SK,injEq→SL
namespace Go.Proofs.YtjebaagkomejaaaGreatDoor
open Go.RowKit
theorem yT (w:Sh)(xs ys:Array Sk)(T T':TypeId)(wx:Sh)(h:Sn (w.heap.size+2) ((w.alloc (.cells xs T)).alloc (.cells ys T')) wx) :
 wx.heap[w.heap.size]? =some (.cells xs T (0,0))∧wx.heap[w.heap.size+1]? =some (.cells ys T' (0,0)):=by
 refine⟨?_,?_⟩
 · rw [h.block _ (by omega),Sn.heap_alloc _ _ _ (by simp)]
   exact Si w _
 · rw [h.block _ (by omega)]
   have:=Si (w.alloc (.cells xs T)) (.cells ys T')
   rwa [Sp] at this
theorem rH {w:Sh} {B:Nat} {v:Sk} {xs:List Nat} (h:w.ownsRow B 21 1 v xs.length (xs.map fun n:Nat=>Sk.int .i32 (n:Int))):∃ g c z,v=.slice z xs.length c∧(0<xs.length→z=some ⟨g,0,none⟩)∧(0<xs.length→xs.length≤c)∧∀ (j x:Nat),xs[j]? =some x→w.cell? ⟨g,j,none⟩=some (.int .i32 (x:Int)):=by
 rcases h.2 with⟨rfl,h0⟩|⟨g,cap,cur,rfl,hB,hc,hnc,r⟩
 · refine⟨0,0,none,by rw [h0],fun hp=>by omega,fun hp=>by omega,fun j x hx=>?_⟩
   have:=(Sr.1 hx).1
   omega
 · refine⟨g,cap,_,rfl,fun _=>rfl,fun _=>hnc,fun j x hx=>?_⟩
   rw [h.cellAt j (by have:=(Sr.1 hx).1;omega)]
   simp [hx]
theorem J9 (w:Sh)(o o':Obj):Sn w.heap.size w ((w.alloc o).alloc o'):=((Sy _ _).alloc (Sz _) _).alloc (by simp) _
theorem kR (c:Cm)(a b:List Nat):nd c a b=(let q:=gq a.length b.length (alike a b) (fV a b (alike a b)) c.frm c.til;if q.2≤q.1 then { c with frm:=0,til:=0,lost:=true } else { c with frm:=q.1,til:=q.2 }):=rfl
end Go.Proofs.YtjebaagkomejaaaGreatDoor
namespace Go.Proofs.YtjebaagkomejaaaGreatDoor
open Go.RowKit
attribute [local go_sem ↓] Go.wp_at_zero Go.wp_at_succ
theorem Fc {α:Type} {K T:Nat} {enc:α→List Sk} (hk:∀ x,(enc x).length=K) {w:Sh} {g:Nat} {x:α} (h:w.heap[g]? =some (.cells (enc x).toArray T (0,0))):ah K enc Flat w (some ⟨g,0,none⟩) [x]:=by
 refine iT hk (SD.1 h).1 fun j u hu=>?_
 simp only [List.flatMap_cons,List.flatMap_nil,List.append_nil] at hu
 rw [SB,cell_of_row w g j _ T (0,0) h]
 simpa using hu
theorem iO (base:Nat)(v:Sk)(xs:List Reg)(i:Nat)(x:Reg)(g vc:Nat)(w:Sh)(h:w.ownsRow base 37 7 v xs.length (xs.flatMap Reg.enc))(hv:w.heap[g]? =some (.cells x.enc.toArray 37 (0,0)))(hgb:v.ownBlock≠some g)(hi:i≤xs.length)(hl:xs.length≤8000000)(hbw:base≤w.heap.size) :
 Sl Tryz.prog 97 #[v,.int .i64 i,.slice (some ⟨g,0,none⟩) 1 vc] w (dC 7 Reg.enc base v.ownBlock (fk xs i x) w):=by
 have h1:=Fc (K:=7) (enc:=Reg.enc) (fun _=>rfl) hv
 rcases h.2 with⟨rfl,h0⟩|⟨b,cap,cur,rfl,hb',hg',hc,hm,_⟩
 · obtain rfl:=List.eq_nil_of_length_eq_zero h0
   obtain rfl:i=0:=by simpa using hi
   exact pZ base x g vc w h1 hbw
 · by_cases hi':i<xs.length
   · by_cases hr:xs.length+1≤cap
     · exact mP base b i g cap vc xs x w h hv hi' hr (fun e=>hgb (by rw [e];rfl)) hl hbw
     · exact n9 base b i g cap vc xs x w h hv hi' (by omega) hl hbw
   · obtain rfl:i=xs.length:=by omega
     rw [zU]
     exact p_ base b cap xs x g vc w h h1 hl hbw
end Go.Proofs.YtjebaagkomejaaaGreatDoor
namespace Go.Proofs.YtjebaagkomejaaaGreatDoor
open Go.RowKit
structure Ed where
 op:Int
 id:Int
 other:Int
 inn:Int
 out:Int
 frame:Int
 row:Int
 frm:Int
 til:Int
 kind:Int
 color:Int
 it:Bool
 un:Bool
 name:ByteArray
 text:ByteArray
 reg:Reg
 at_:Option Addr
 cap:Nat
 rows:List Row
def Ed.c (x:Ed):EdC:=⟨x.op,x.id,x.other,x.inn,x.out,x.frame,x.row,x.frm,x.til,x.kind,x.color,x.it,x.un,x.name,x.text,x.reg,x.rows.map Row.runs⟩
def Ed.enc (x:Ed):List Sk:=[.int .u8 x.op,.int .i64 x.id,.int .i64 x.other,.int .i64 x.inn,.int .i64 x.out,.int .i64 x.frame,.int .i64 x.row,.int .i64 x.frm,.int .i64 x.til,.int .u8 x.kind,.int .u8 x.color,.bool x.it,.bool x.un,.string x.name,.string x.text,
 .string x.reg.name,.int .i64 x.reg.top,.int .i64 x.reg.bm,.int .i64 x.reg.left,.int .i64 x.reg.width,.int .u8 x.reg.align,.bool x.reg.bottom,.slice x.at_ x.rows.length x.cap]
def Ed.lies (w:Sh)(x:Ed):Prop:=bN w x.at_ x.rows
def Ed.fits (x:Ed):Prop:=(0≤x.op∧x.op≤255)∧(i64 x.id∧i64 x.other∧i64 x.inn∧i64 x.out∧i64 x.frame∧i64 x.row∧i64 x.frm∧i64 x.til)∧(0≤x.kind∧x.kind≤255)∧(0≤x.color∧x.color≤255)∧x.name.size≤4000000∧x.text.size≤4000000∧x.reg.fits∧(∀ r∈x.rows,r.fits)∧x.rows.length≤4000000
theorem Ed.later {w w':Sh} {x:Ed} (h:x.lies w)(hb:Sn w.heap.size w w'):x.lies w':=bN.later h hb
theorem cS:(Tryz.prog.info? 40).map (·.size)=some 23:=by kernel_rfl
theorem aD (n a b:Int)(w:Sh):Sl Tryz.prog 122 #[.int .i64 n,.int .i64 a,.int .i64 b] w fun e w'=>e=.returned (.bool (inB n a b))∧w'=w:=by
 have h:inB n a b=(decide (a≤n)&&decide (n≤b)):=by unfold inB;simp
 go_enter Tryz.func122,Tryz.ntmps122
 by_cases h1:a≤n
 · go_wp2_with fail
   go_ret
   exact⟨by rw [h];simp [h1],rfl⟩
 · have h2:decide (a≤n)=false:=decide_eq_false h1
   rw [h2] at h
   rw [h]
   go_wp2_with fail
   go_ret
   exact⟨rfl,rfl⟩
theorem du (b:Bool)(e:Int)(w:Sh):Sl Tryz.prog 124 #[.bool b,.int .i64 e] w fun en w'=>en=.returned (.int .i64 (if b=true then 0 else e))∧w'=w:=by
 go_enter Tryz.func124,Tryz.ntmps124
 cases b
 · go_wp2_with fail
   go_ret
   exact⟨rfl,rfl⟩
 · go_wp2_with fail
   go_ret
   exact⟨rfl,rfl⟩
def hasB (u b:Int):Bool:=bits BinOp.and IntKind.i64 u b != 0
theorem ej (u b:Int)(g:Nat)(w:Sh)(h:w.cell? ⟨g,0,none⟩=some (.int .i64 u)):Sl Tryz.prog 73 #[.int .i64 b,.pointer (some ⟨g,0,none⟩)] w fun e w'=>e=.returned (.bool (hasB u b))∧w'=w:=by
 go_enter Tryz.func73,Tryz.ntmps73
 go_wp2_with fail
 go_ret
 exact⟨rfl,rfl⟩
theorem nn (l:List (List Run))(k:Nat)(r:List Run)(h:l[k]? =some r)(h0:gi r≠0):dg (l.drop k)=gi r:=by
 rw [ch l k r h,dg,if_pos h0]
theorem np (l:List (List Run))(k:Nat)(r:List Run)(h:l[k]? =some r)(h0:gi r=0):dg (l.drop k)=dg (l.drop (k+1)):=by
 rw [ch l k r h,dg,if_neg (fun q=>q h0)]
theorem sN (a:Option Addr)(cap:Nat)(rows:List Row)(w:Sh)(hE:Env w)(h:bN w a rows)(hf:∀ r∈rows,r.fits)(hl:rows.length≤4000000):Sl Tryz.prog 81 #[.slice a rows.length cap] w fun e w'=>e=.returned (.int .i64 (dx (rows.map Row.runs)))∧Sn w.heap.size w w':=by
 have HL:=h_ h
 have jt:=h_ (fun(r:Row) (hr:r∈rows) (w1:Sh) (hb:Sn w.heap.size w w1) (hl:r.lies w1)=>jy r w1 (hE.below hb (Sz _)) hl (hf r hr))
 have hE0:dx (rows.map Row.runs)=if rows.length<1∨4<rows.length then 9 else dg (rows.map Row.runs):=by unfold dx;rw [Ss]
 have HQ:=h_ (fun(q:Int) (hq:dx (rows.map Row.runs)=q) (w':Sh) (hb:Sn w.heap.size w w')=>(show Ending.returned (.int .i64 q)=Ending.returned (.int .i64 (dx (rows.map Row.runs)))∧Sn w.heap.size w w' from⟨by rw [hq],hb⟩))
 have mg:=h_ hE0
 clear h hf hE hE0
 go_enter Tryz.func81,Tryz.ntmps81
 by_cases h1:rows.length<1
 · have HF:=h_ (HQ.out 9 (mg.out.trans (if_pos (.inl h1))) w (Sy _ _))
   have h1':rows.length=0:=by omega
   have OE:(rows.length:Int)<1:=by omega
   clear HQ mg h1 h1' HL jt
   go_wp2_with (refine eh (.tmp 10) 38 rfl a rows.length cap rfl Tryz.underlying38 (by rfl) ?_)
   go_ret
   exact HF.out
 · have OE:(1:Int)≤(rows.length:Int):=by omega
   by_cases h2:4<rows.length
   · have HF:=h_ (HQ.out 9 (mg.out.trans (if_pos (.inr h2))) w (Sy _ _))
     have OC:(4:Int)<(rows.length:Int):=by omega
     clear HQ mg h1 HL jt
     go_wp2_with (refine eh (.tmp 10) 38 rfl a rows.length cap rfl Tryz.underlying38 (by rfl) ?_)
     go_ret
     exact HF.out
   · have OC:(rows.length:Int)≤4:=by omega
     have HP:=h_ (show dg ((rows.map Row.runs).drop 0)=dx (rows.map Row.runs) from by rw [List.drop_zero,mg.out,if_neg (by omega)])
     clear mg h1 h2
     generalize dx (rows.map Row.runs)=G at *
     go_wp2_with (refine eh (.tmp 10) 38 rfl a rows.length cap rfl Tryz.underlying38 (by rfl) ?_)
     go_loopw [16] (fun kv wr=>∃ k:Nat,k≤rows.length∧kv=.int .i64 k∧dg ((rows.map Row.runs).drop k)=G∧Sn w.heap.size w wr) (fun kv _=>rows.length-(intOf kv).toNat)
     case atStart=>exact⟨0,by omega,rfl,HP.out,Sy _ _⟩
     case round =>
      clear HP
      obtain⟨k,hk,rfl,hp,hb⟩:=hrel
      by_cases hlt:k<rows.length
      · obtain⟨b,off,r,rfl,hbl,hx,hc,hrl⟩:=ah.at_ (HL.out.later hb) hlt
        have hc0:wr.cell? ⟨b,off+k,none⟩=some (.slice r.at_ r.runs.length r.cap):=by
         have:=hc 0 _ rfl
         simpa using this
        have qU:(rows.map Row.runs)[k]? =some r.runs:=by rw [List.getElem?_map,hx];rfl
        have HST:=h_ (nn (rows.map Row.runs) k r.runs qU)
        have C4:=h_ (np (rows.map Row.runs) k r.runs qU)
        have jq:=h_ hp
        have gn:=hb.alloc hb.size (.cells #[.slice r.at_ r.runs.length r.cap] 75)
        have lQ:=h_ (jt.out r (List.mem_of_getElem? hx) _ gn (Row.keeps _ _ _ ((Sy _ _).alloc (Sz _) _) hrl))
        have oH:=h_ gn
        have hse:=hb.size
        obtain⟨ra,rc,rr⟩:=r
        simp only [Row.enc] at lQ hc0 HST C4 oH
        clear hp hb hx hc hrl qU gn
        generalize gi rr=E at *
        go_wp2_with fail
        refine lQ.out.mono ?_
        rintro e w1 ⟨rfl,hb1⟩
        have hbe:=oH.out.trans (hb1.mono (by simp;omega))
        clear hb1 oH lQ
        by_cases h0:E=0
        · subst h0
          have hp2:=(C4.out (by first|rfl|trivial)).symm.trans jq.out
          clear HST C4 jq
          go_wp2_with fail
          go_roundw
          case rel=>exact⟨k+1,by omega,by go_num,hp2,hbe⟩
          case measure=>simp [intOf];omega
        · have hne:(E != 0)=true:=by simpa using h0
          have HF:=h_ (HQ.out E (jq.out.symm.trans (HST.out h0)) w1 hbe)
          clear HST C4 jq h0 HQ
          go_wp2_with fail
          go_ret
          exact HF.out
      · obtain rfl:k=rows.length:=by omega
        rw [List.drop_of_length_le (by simp)] at hp
        have HF:=h_ (HQ.out 0 (hp.symm.trans rfl) wr hb)
        clear hp hb HQ
        go_wp2_with fail
        go_ret
        exact HF.out
theorem CL (w:Sh)(x:Array Sk)(t:TypeId):(w.alloc (.cells x t)).heap[w.heap.size]? =some (.cells x t (0,0)):=Si _ _
theorem vT (t:ByteArray):t.toList.isEmpty=decide (t.size=0):=by
 rw [←jI t]
 cases t.toList<;>simp
def j9 (name:ByteArray)(x:Reg):Bool:=x.name.toList==name.toList
instance:Inhabited Reg:=⟨gB⟩
theorem mA (k:ByteArray):∀ (xs:List Reg)(i:Nat),(bX (j9 k) xs i=-1∧fj xs k=none)∨∃ (j:Nat)(x:Reg),bX (j9 k) xs i=((i+j:Nat):Int)∧xs[j]? =some x∧fj xs k=some x
 | [],i=>.inl ⟨rfl,rfl⟩
 | x::l,i=>by
   have hr:j9 k x=eH k x:=rfl
   cases h:eH k x with
   | true =>
     have h1:j9 k x=true:=hr.trans h
     refine .inr ⟨0,x,?_,rfl,?_⟩
     · simp only [bX,h1,if_true,Nat.add_zero]
     · unfold fj
       rw [Sx,h]
   | false =>
     have h1:j9 k x=false:=hr.trans h
     have e1:bX (j9 k) (x::l) i=bX (j9 k) l (i+1):=by simp [bX,h1]
     have e2:fj (x::l) k=fj l k:=by
      unfold fj
      rw [Sx,h]
     rw [e1,e2]
     rcases mA k l (i+1) with h|⟨j,y,h3,h4,h5⟩
     · exact .inl h
     · exact .inr ⟨j+1,y,by rw [h3];congr 1;omega,by simpa using h4,h5⟩
theorem vA (xs:List Reg)(k:ByteArray):(posOf (j9 k) xs=-1∧fj xs k=none)∨∃ (j:Nat)(x:Reg),posOf (j9 k) xs=(j:Int)∧xs[j]? =some x∧fj xs k=some x:=by
 have h:=mA k xs 0
 simp only [SB] at h
 exact h
theorem uq (x:Reg)(g:Nat)(nm:ByteArray)(w:Sh)(hg:w.cell? ⟨g,0,none⟩=some (.string nm))(hl:g<w.heap.size) :
 Sl Tryz.prog 143 #[.agg x.enc.toArray,.pointer (some ⟨g,0,none⟩)] w fun e w'=>e=.returned (.bool (j9 nm x))∧Sn w.heap.size w w':=by
 obtain⟨rn,rt,rh,rl,rwd,ra,rb⟩:=x
 simp only [Reg.enc,j9]
 have hg2:∀ o,(w.alloc o).cell? ⟨g,0,none⟩=some (.string nm):=fun o=>(Sq _ _ _ (by simpa using hl)).trans hg
 go_enter Tryz.func143,Tryz.ntmps143
 go_wp2_with fail
 go_ret
 exact⟨rfl,(Sy _ _).alloc (Sz _) _⟩
theorem uz (a:Option Addr)(cap:Nat)(v:Sk)(w:Sh):Sl Tryz.prog 142 #[.slice a 0 cap,v] w fun e w'=>e=.returned (.int .i64 (-1))∧w=w':=by
 go_enter Tryz.func142,Tryz.ntmps142
 go_wp2_with fail
 refine wp_loop_rounds 1 ?_
 rw [rounds_succ]
 go_wp2_with fail
 go_ret
 exact⟨rfl,rfl⟩
theorem sm (a:Option Addr)(cap:Nat)(xs:List Reg)(g:Nat)(id:ByteArray)(w:Sh)(hr:ah 7 Reg.enc Flat w a xs)(hl:xs.length≤4000000)(hg:w.cell? ⟨g,0,none⟩=some (.string id))(hgl:g<w.heap.size) :
 Sl Tryz.prog 142 #[.slice a xs.length cap,.func (.func 143) #[] #[.pointer (some ⟨g,0,none⟩)]] w fun e w'=>e=.returned (.int .i64 (posOf (j9 id) xs))∧Sn w.heap.size w w':=by
 rcases hr with rfl|⟨b,off,rfl,hb,hc⟩
 · exact(uz a cap _ w).mono fun e w' ⟨he,hw⟩=>⟨he,hw▸Sy _ _⟩
 · have h:=Tryz.slices_IndexFunc_f142 7 (fun w=>by kernel_rfl) (fun w=>by kernel_rfl) Reg.enc (fun _=>rfl) (j9 id) 143 #[.pointer (some ⟨g,0,none⟩)] (fun args w=>by kernel_rfl) b off xs.length cap xs w
    (fun W x hW=>(uq x g id W ((hW.cell (p:=⟨g,0,none⟩) hgl).trans hg) (SC hgl hW.size)).mono fun e w' ⟨he,hw⟩=>⟨he,hW.trans (hw.mono hW.size)⟩)
    (Sz _) (by omega) hb (fun j hj i v hv=>(hc j _ (jN xs j hj)).1 i v hv)
   rw [Sv,mE] at h
   exact h
theorem pT (d:Doc)(id:ByteArray)(w:Sh)(hr:ah 7 Reg.enc Flat w d.ra d.rG)(hl:d.rG.length≤4000000) :
 Sl Tryz.prog 96 #[.agg d.enc.toArray,.string id] w fun e w'=>e=.returned (.int .i64 (posOf (j9 id) d.rG))∧Sn w.heap.size w w':=by
 have HC:=h_ (sm d.ra d.rc d.rG (w.heap.size+1) id ((w.alloc (.cells d.enc.toArray 27)).alloc (.cells #[.string id] 9)) (ah.keeps Flat.keeps _ _ _ _ (((Sy _ _).alloc (Sz _) _).alloc (by simp) _) hr) hl (cW w d.enc.toArray #[.string id] 27 9 0 _ rfl _ (Sy _ _)) (by simp))
 obtain⟨title,lA,rate,drop,last,ra,rc,rG,ea,ec,eV,ca,cc,cM⟩:=d
 simp only [Doc.enc] at HC ⊢
 go_enter Tryz.func96,Tryz.ntmps96
 go_wp2_with fail
 refine HC.out.mono ?_
 rintro e w1 ⟨rfl,hb⟩
 have hb':=fH (hb.mono (by simp))
 go_wp2_with fail
 go_ret
 exact⟨rfl,hb'⟩
def uw (name:ByteArray)(y:Ev):Bool:=y.region.toList==name.toList
theorem uu (y:Ev)(g:Nat)(nm:ByteArray)(w:Sh)(hg:w.cell? ⟨g,0,none⟩=some (.string nm))(hl:g<w.heap.size) :
 Sl Tryz.prog 99 #[.agg y.enc.toArray,.pointer (some ⟨g,0,none⟩)] w fun e w'=>e=.returned (.bool (uw nm y))∧Sn w.heap.size w w':=by
 obtain⟨yid,yin,yout,yre,yki,ysp,yat,ycap,yrows⟩:=y
 simp only [Ev.enc,uw]
 have hg2:∀ o,(w.alloc o).cell? ⟨g,0,none⟩=some (.string nm):=fun o=>(Sq _ _ _ (by simpa using hl)).trans hg
 go_enter Tryz.func99,Tryz.ntmps99
 go_wp2_with fail
 go_ret
 exact⟨rfl,(Sy _ _).alloc (Sz _) _⟩
theorem uA (a:Option Addr)(cap:Nat)(v:Sk)(w:Sh):Sl Tryz.prog 127 #[.slice a 0 cap,v] w fun e w'=>e=.returned (.int .i64 (-1))∧w=w':=by
 go_enter Tryz.func127,Tryz.ntmps127
 go_wp2_with fail
 refine wp_loop_rounds 1 ?_
 rw [rounds_succ]
 go_wp2_with fail
 go_ret
 exact⟨rfl,rfl⟩
theorem xK (a:Option Addr)(cap:Nat)(v:Sk)(w:Sh):Sl Tryz.prog 98 #[.slice a 0 cap,v] w fun e w'=>e=.returned (.bool false)∧w=w':=by
 have h:=uA a cap v w
 go_enter Tryz.func98,Tryz.ntmps98
 go_wp2_with fail
 refine h.mono ?_
 rintro e w_ ⟨rfl,rfl⟩
 go_wp2_with fail
 go_ret
 exact⟨rfl,rfl⟩
theorem sB (a:Option Addr)(cap:Nat)(xs:List Ev)(g:Nat)(nm:ByteArray)(w:Sh)(hr:dG w a xs)(hl:xs.length≤4000000)(hg:w.cell? ⟨g,0,none⟩=some (.string nm))(hgl:g<w.heap.size) :
 Sl Tryz.prog 98 #[.slice a xs.length cap,.func (.func 99) #[] #[.pointer (some ⟨g,0,none⟩)]] w fun e w'=>e=.returned (.bool (xs.any (uw nm)))∧Sn w.heap.size w w':=by
 rcases hr with rfl|⟨b,off,rfl,hb,hc⟩
 · exact(xK a cap _ w).mono fun e w' ⟨he,hw⟩=>⟨he,hw▸Sy _ _⟩
 · have h:=Tryz.slices_ContainsFunc_f98 7 (fun w=>by kernel_rfl) (fun w=>by kernel_rfl) Ev.enc (fun _=>rfl) (uw nm) 99 #[.pointer (some ⟨g,0,none⟩)] (fun args w=>by kernel_rfl) b off xs.length cap xs w
    (fun W x hW=>(uu x g nm W ((hW.cell (p:=⟨g,0,none⟩) hgl).trans hg) (SC hgl hW.size)).mono fun e w' ⟨he,hw⟩=>⟨he,hW.trans (hw.mono hW.size)⟩)
    (Sz _) (by omega) hb (fun j hj i v hv=>(hc j _ (jN xs j hj)).1 i v hv)
   rw [Sv] at h
   exact h
def insQ (d:DocC)(e:EvC):Int:=if cErr d≠0 then cErr d else if e.id=0 then (if 1099511627776≤d.hd.last then 9 else 0) else if e.id<1∨d.hd.last<e.id then 2 else if ju d e.id=true then 7 else 0
def insE (d:DocC)(e:EvC):EvC:=if e.id=0 then { e with id:=d.hd.last+1 } else e
def insL (d:DocC)(e:EvC):Int:=if e.id=0 then d.hd.last+1 else d.hd.last
def insX (d:Doc)(x:Ev):Ev:=if x.id=0 then { x with id:=d.last+1 } else x
theorem Gr (d:Doc)(x:Ev):(insX d x).c=insE d.c x.c:=by
 unfold insX insE
 show _=if x.id=0 then _ else _
 split<;>rfl
theorem sj (d:DocC)(e:EvC):aQ d e=if insQ d e≠0 then insQ d e else if bT d.rG (insE d e)≠0 then bT d.rG (insE d e) else if 400≤d.eV.length then 9 else 0:=by
 unfold aQ insQ insE ju
 by_cases h:cErr d≠0
 · rw [if_pos h,if_pos h,if_pos h]
 · rw [if_neg h,if_neg h]
   simp only [Bool.or_eq_true]
theorem qd (d:DocC)(e:EvC):insertC d e=if aQ d e≠0 then (aQ d e,aV) else (0,{ d with hd:={ d.hd with last:=insL d e },eV:=de (d.eV++[insE d e]) }):=by
 unfold insertC insL insE
 split
 · rfl
 · split<;>rfl
theorem aX:(Tryz.prog.info? 72).map (·.size)=some 7:=by kernel_rfl
def jn (d:DocC)(x:EvC)(w:Sh)(e:Ending)(w':Sh):Prop:=∃ d2:Doc,e=.returned (.tuple #[.agg d2.enc.toArray,.int .i64 (if aQ d x=0 then (insE d x).id else 0),.int .i64 (aQ d x)])∧d2.c=(insertC d x).2∧d2.lies w'∧(∀ b,d2.uses b→w.heap.size≤b)∧Sn w.heap.size w w'
theorem jn.bad {d:DocC} {x:EvC} {w w':Sh} {q:Int} (hq:aQ d x=q)(h0:q≠0)(h:Sn w.heap.size w w'):jn d x w (.returned (.tuple #[.agg zDoc.enc.toArray,.int .i64 0,.int .i64 q])) w':=by
 subst hq
 exact⟨zDoc,by rw [if_neg h0],by rw [qd,if_pos h0];rfl,jX w',fun b=>jW b _,h⟩
theorem zT (w:Sh)(ds es zd:Array Sk):(((w.alloc (.cells ds 27)).alloc (.cells es 72)).alloc (.cells zd 27)).heap[w.heap.size]? =some (.cells ds 27 (0,0))∧(((w.alloc (.cells ds 27)).alloc (.cells es 72)).alloc (.cells zd 27)).heap[w.heap.size+1]? =some (.cells es 72 (0,0))∧(((w.alloc (.cells ds 27)).alloc (.cells es 72)).alloc (.cells zd 27)).heap[w.heap.size+1+1]? =some (.cells zd 27 (0,0)):=by
 refine⟨(Sj _ _ (by simp;try omega)).trans ((Sj _ _ (by simp)).trans (Si _ _)),(Sj _ _ (by simp)).trans ?_,?_⟩
 · have:=Si (w.alloc (.cells ds 27)) (.cells es 72)
   rw [Sp] at this
   exact this
 · have:=Si ((w.alloc (.cells ds 27)).alloc (.cells es 72)) (.cells zd 27)
   rw [Sp,Sp] at this
   exact this
theorem kI {zs ys:List Ev} (hp:(ys.map Ev.c).Perm (zs.map Ev.c))(hs:ys.Pairwise fun x y=>ltOf lW y x=false)(hi:(zs.map Ev.c).Pairwise fun x y=>x.id≠y.id):ys.map Ev.c=de (zs.map Ev.c):=by
 refine ke hp ?_ hi
 rw [List.pairwise_map]
 refine hs.imp fun {x y} h=>?_
 rw [jb] at h
 simp only [decide_eq_false_iff_not] at h
 simp only [evLe,decide_eq_true_eq]
 show x.inn<y.inn∨(x.inn=y.inn∧x.id≤y.id)
 omega
theorem Eb {d:DocC} {e:EvC} (h:aQ d e=0):(d.eV++[insE d e]).Pairwise fun x y=>x.id≠y.id:=by
 rw [sj] at h
 by_cases hq:insQ d e≠0
 · rw [if_pos hq] at h;exact absurd h hq
 · have hq0:=Classical.not_not.1 hq
   unfold insQ at hq0
   by_cases hc:cErr d≠0
   · rw [if_pos hc] at hq0;exact absurd hq0 hc
   · rw [if_neg hc] at hq0
     have hc':=Classical.not_not.1 hc
     refine List.pairwise_append.2 ⟨(iF hc').ids,List.pairwise_singleton _ _,fun a ha b hb=>?_⟩
     obtain rfl:=List.mem_singleton.1 hb
     unfold insE
     by_cases hi:e.id=0
     · rw [if_pos hi]
       show a.id≠d.hd.last+1
       have:=ve hc' a ha
       omega
     · rw [if_neg hi] at hq0 ⊢
       by_cases hr:e.id<1∨d.hd.last<e.id
       · rw [if_pos hr] at hq0;exact absurd hq0 (by decide)
       · rw [if_neg hr] at hq0
         by_cases ht:ju d e.id=true
         · rw [if_pos ht] at hq0;exact absurd hq0 (by decide)
         · intro he
           have:(aU d.eV e.id).isSome=true:=by
            unfold aU
            rw [List.find?_isSome]
            exact⟨a,ha,by simp [evAt,he]⟩
           apply ht
           unfold ju
           rw [this]
           rfl
theorem Ca {d:Doc} {y:Ev} {w w6 w7:Sh} {v':Sk} {cs:Array Sk} {B:Nat} (hl:d.lies w6)(hu:∀ b,d.uses b→B≤b)(hap:d.apart)(ho:w6.ownsRow B 72 7 (.slice d.ea d.eV.length d.ec) d.eV.length (d.eV.flatMap Ev.enc))(hy:y.lies w)(hb:Sn w.heap.size w w6)(hBw:w.heap.size≤B)
 (hcs:cs.toList=y.enc) (hown:w7.ownsRow B 72 7 v' (d.eV.length+1) (d.eV.flatMap Ev.enc++cs.toList)) (hg:(w6.alloc (.cells cs 72)).grownBy w7 (SF d.ea d.eV.length d.ec).ownBlock) (hat:v'.ownBlock=(SF d.ea d.eV.length d.ec).ownBlock∨v'.ownBlock=some (w6.heap.size+1)) :
 ∃ a c,v'=.slice a (d.eV.length+1) c∧dG w7 a (d.eV++[y])∧Kept (fun b=>(SF d.ea d.eV.length d.ec).ownBlock=some b) w6 w7:=by
 have hyl:y.lies w6:=Ev.keeps _ _ _ hb hy
 have GQ:∀ b,(SF d.ea d.eV.length d.ec).ownBlock=some b→B≤b:=fun b e=>(ho.lt b e).1
 have hG0:jg 72 7 Ev.enc Ev.lies Ev.uses 0 w6 (.slice d.ea d.eV.length d.ec) d.eV w6:=by
  refine⟨dK ho (SA _),fun z hz=>⟨gu hl.2.1 hz,fun b q=>⟨fun e=>?_,SA _⟩⟩,Sy _ _⟩
  obtain⟨t,_,t2,t3,_⟩:=hap
  have h3:=t3 z hz b q
  have h2:=t2 b ⟨fun e'=>by rw [e'] at hz;simp at hz,by
   cases Mp:d.ea with
   | none=>rw [Mp] at e;simp [SH] at e
   | some ad=>rw [Mp] at e;exact⟨ad,rfl,by simpa [SH] using e⟩⟩
  omega
 have hG:=jg.push Ev.deep hG0 (SA _) hcs (dK hown (SA _)) hg hat hyl (fun b q=>⟨fun e=>by
  have h1:=GQ b e
  have h2:=Ev.uses_lt hy q
  omega,SA _⟩)
 obtain⟨a,c,hv,hS⟩:=aA (k:=7) (enc:=Ev.enc) (Ok:=Ev.lies) (xs:=d.eV++[y]) (fun _=>rfl) (by simpa using hG.1) (fun z hz=>(hG.2.1 z hz).1)
 have hk1:Kept (fun b=>(SF d.ea d.eV.length d.ec).ownBlock=some b) w6 (w6.alloc (.cells cs 72)):=(Kept.refl _ _).alloc _
 exact⟨a,c,by rw [hv];simp,hS,hk1.andGrown hg fun k hk _=>hk⟩
theorem vz (w:Sh)(ds es zd:Array Sk):(((w.alloc (.cells ds 27)).alloc (.cells es 40)).alloc (.cells zd 27)).heap[w.heap.size]? =some (.cells ds 27 (0,0))∧(((w.alloc (.cells ds 27)).alloc (.cells es 40)).alloc (.cells zd 27)).heap[w.heap.size+1]? =some (.cells es 40 (0,0))∧(((w.alloc (.cells ds 27)).alloc (.cells es 40)).alloc (.cells zd 27)).heap[w.heap.size+1+1]? =some (.cells zd 27 (0,0)):=by
 refine⟨(Sj _ _ (by simp;try omega)).trans ((Sj _ _ (by simp)).trans (Si _ _)),(Sj _ _ (by simp)).trans ?_,?_⟩
 · have:=Si (w.alloc (.cells ds 27)) (.cells es 40)
   rw [Sp] at this
   exact this
 · have:=Si ((w.alloc (.cells ds 27)).alloc (.cells es 40)) (.cells zd 27)
   rw [Sp,Sp] at this
   exact this
theorem Ic (x:Ed)(j:Nat)(v:Sk)(h:x.reg.enc[j]? =some v):x.enc[15+j]? =some v:=by
 have hj:j<7:=(Sr.1 h).1
 obtain rfl|rfl|rfl|rfl|rfl|rfl|rfl:j=0∨j=1∨j=2∨j=3∨j=4∨j=5∨j=6:=by omega
 all_goals exact h
theorem nl {w:Sh} {g:Nat} {x:Ed} (h:w.heap[g]? =some (.cells x.enc.toArray 40 (0,0))):w.rangeAt g 15 x.reg.enc:=fun j v hv=>by
 rw [cell_of_row _ _ (15+j) _ 40 (0,0) h]
 simpa using Ic x j v hv
theorem pI:(Tryz.prog.info? 37).map (·.size)=some 7:=by kernel_rfl
def pairs (l:List (Int × Bool)):List Sk:=l.flatMap fun p=>[.int .i64 p.1,.bool p.2]
def gR (x:Ed):List (Int × Bool):=[(1,x.id==0),(2,x.other==0),(4,x.inn==0&&x.out==0),(8,x.frame==0),(16,x.row==0),(32,x.frm==0&&x.til==0),(64,x.kind==0),(128,x.color==0&&!x.it&&!x.un),(256,x.name.toList.isEmpty),(512,x.text.toList.isEmpty),(1024,gV x.reg gB),(2048,(x.rows.length:Int)==0)]
theorem F_ (rn:ByteArray)(rt rh rl rwd ra:Int)(rb:Bool)(w_:Sh):(if rn.toList=[] then
 if rt=0 then
  if rh=0 then
   if rl=0 then
    if rwd=0 then
     if ra=0 then
      if rb=true then SI (SJ (SG false)) w_
      else SI (SJ (SG true)) w_
     else SI (SJ (SG false)) w_
    else SI (SJ (SG false)) w_
   else SI (SJ (SG false)) w_
  else SI (SJ (SG false)) w_
 else SI (SJ (SG false)) w_
 else SI (SJ (SG false)) w_)=SI (SJ (SG (gV ⟨rn,rt,rh,rl,rwd,ra,rb⟩ gB))) w_:=by
 have hz:(⟨#[]⟩:ByteArray).toList=[]:=by rw [←List.isEmpty_iff,vT];rfl
 unfold gV gB
 simp only [hz]
 repeat' split
 all_goals simp_all
def okS (u:Int)(p:Int × Bool):Bool:=hasB u p.1||p.2
theorem vF:(zeE.all (·.oneCell'))=true:=by simp [Sk.oneCell']
theorem box3 (w:Sh)(x y z:Array Sk)(t1 t2 t3:TypeId):(((w.alloc (.cells x t1)).alloc (.cells y t2)).alloc (.cells z t3)).heap[w.heap.size]? =some (.cells x t1 (0,0))∧(((w.alloc (.cells x t1)).alloc (.cells y t2)).alloc (.cells z t3)).heap[w.heap.size+1]? =some (.cells y t2 (0,0))∧(((w.alloc (.cells x t1)).alloc (.cells y t2)).alloc (.cells z t3)).heap[w.heap.size+1+1]? =some (.cells z t3 (0,0)):=by
 refine⟨(Sj _ _ (by simp;try omega)).trans ((Sj _ _ (by simp)).trans (Si _ _)),(Sj _ _ (by simp)).trans ?_,?_⟩
 · have:=Si (w.alloc (.cells x t1)) (.cells y t2)
   rw [Sp] at this
   exact this
 · have:=Si ((w.alloc (.cells x t1)).alloc (.cells y t2)) (.cells z t3)
   rw [Sp,Sp] at this
   exact this
def iJ (a b:EvC)(w:Sh)(e:Ending)(w':Sh):Prop:=∃ y:Ev,e=.returned (.tuple #[.agg y.enc.toArray,.int .i64 (bS a b)])∧(bS a b=0→y.c=nZ a b)∧y.lies w'∧(∀ k,y.uses k→w.heap.size≤k)∧Sn w.heap.size w w'
theorem iJ.bad {a b:EvC} {w w':Sh} {q:Int} (hq:bS a b=q)(h0:q≠0)(h:Sn w.heap.size w w'):iJ a b w (.returned (.tuple #[.agg zeE,.int .i64 q])) w':=by
 subst hq
 exact⟨oI,rfl,fun e=>absurd e h0,jF _,fun k q=>(jE k q).elim,h⟩
theorem AO (a b:Ev):evLt a.c b.c=kN a b:=by
 rw [Bool.eq_iff_iff,vJ]
 unfold evLt EvC.lt
 rw [decide_eq_true_eq]
theorem xp (a b:Ev):bS a.c b.c=if kN a b=false then 8 else if 4<a.rows.length+b.rows.length then 9 else 0:=by
 unfold bS
 rw [AO]
 show(if _ then _ else if 4<(a.rows.map Row.runs).length+(b.rows.map Row.runs).length then _ else _)=_
 rw [Ss,Ss]
theorem Gm {a b A:Ev} {n:Nat} {a':Option Addr} {rows':List Row} {v':Sk} {v1 v2:Sh} (hA:A.c=a.c)(hl:A.lies v1)(hap:∀ r∈A.rows,∀ b,r.uses b→(SF A.at_ A.rows.length A.cap).ownBlock≠some b)(hr:bN v1 a' rows')(hm:rows'.map Row.runs=b.rows.map Row.runs)
 (hu:∀ k,dh a' rows' k→(SF A.at_ A.rows.length A.cap).ownBlock≠some k) (ho:v2.ownsRow n 75 1 v' (A.rows.length+rows'.length) (A.rows.flatMap Row.enc++rows'.flatMap Row.enc)) (hg:v1.grownBy v2 (SF A.at_ A.rows.length A.cap).ownBlock) :
 ∃ y:Ev,v'=.slice y.at_ y.rows.length y.cap∧y={ A with at_:=y.at_,cap:=y.cap,rows:=A.rows++rows' }∧y.lies v2:=by
 have hl':∀ r∈A.rows++rows',r.lies v2:=fun r hr0=>by
  rcases Sw.1 hr0 with h|h
  · obtain⟨j,hj,rfl⟩:=Su h
    have hrl:(A.rows[j]).lies v1:=by
     obtain⟨_,_,x,_,_,hx,_,hl⟩:=ah.at_ hl hj
     rw [St hj] at hx
     rw [SK hx];exact hl
    exact Row.frame hrl hg.size fun k hk=>hg.block k (Row.uses_lt hrl hk) fun e=>hap _ h k hk e.symm
  · obtain⟨j,hj,rfl⟩:=Su h
    have hrl:(rows'[j]).lies v1:=by
     obtain⟨_,_,x,_,_,hx,_,hl⟩:=ah.at_ hr hj
     rw [St hj] at hx
     rw [SK hx];exact hl
    exact Row.frame hrl hg.size fun k hk=>hg.block k (Row.uses_lt hrl hk) fun e=>hu k (.inr ⟨_,h,hk⟩) e.symm
 obtain⟨ta,tc,hv,hS⟩:=aA (k:=1) (enc:=Row.enc) (Ok:=Row.lies) (xs:=A.rows++rows') (fun _=>rfl) (by simpa using ho) hl'
 exact⟨{ A with at_:=ta,cap:=tc,rows:=A.rows++rows' },hv,rfl,hS⟩
theorem zQ {a b A:Ev} {g B:Nat} {a' av:Option Addr} {cv:Nat} {rows':List Row} {W v1 v2:Sh} (hA:A.c=a.c)(hl:A.lies W)(qn:∀ k,A.uses k→k<g∧B≤k)(hB:B≤W.heap.size)(hap:∀ r∈A.rows,∀ b,r.uses b→(SF A.at_ A.rows.length A.cap).ownBlock≠some b)(hgW:g<W.heap.size)
 (hown0:∀ k,(SF A.at_ A.rows.length A.cap).ownBlock=some k→k<g) (hv1:Sn W.heap.size W v1) (hr:bN v1 a' rows') (hm:rows'.map Row.runs=b.rows.map Row.runs) (hu:∀ k,dh a' rows' k→W.heap.size≤k)
 (ho:v2.ownsRow B 75 1 (.slice av (A.rows.length+rows'.length) cv) (A.rows.length+rows'.length) (A.rows.flatMap Row.enc++rows'.flatMap Row.enc)) (hg:v1.grownBy v2 (SF A.at_ A.rows.length A.cap).ownBlock)
 (hat:(SF av (A.rows.length+rows'.length) cv).ownBlock=(SF A.at_ A.rows.length A.cap).ownBlock∨(SF av (A.rows.length+rows'.length) cv).ownBlock=some v1.heap.size)
 (h8:(v2.setCell ⟨g,6,none⟩ (.slice av (A.rows.length+rows'.length) cv)).heap[g]? =some (.cells (A.enc.toArray.setIfInBounds 6 (.slice av (A.rows.length+rows'.length) cv)) 72 (0,0)))
 (hk:Kept (fun k=>k=g∨(SF A.at_ A.rows.length A.cap).ownBlock=some k) W (v2.setCell ⟨g,6,none⟩ (.slice av (A.rows.length+rows'.length) cv))) :
 ∃ y:Ev,y={ A with at_:=y.at_,cap:=y.cap,rows:=y.rows }∧y.rows.map Row.runs=A.rows.map Row.runs++b.rows.map Row.runs∧y.lies (v2.setCell ⟨g,6,none⟩ (.slice av (A.rows.length+rows'.length) cv))∧(∀ k,y.uses k→k≠g)∧(∀ k,y.uses k→B≤k)∧(v2.setCell ⟨g,6,none⟩ (.slice av (A.rows.length+rows'.length) cv)).heap[g]? =some (.cells y.enc.toArray 72 (0,0))∧Kept (fun k=>k=g∨(SF A.at_ A.rows.length A.cap).ownBlock=some k) W (v2.setCell ⟨g,6,none⟩ (.slice av (A.rows.length+rows'.length) cv)):=by
 have hs1:=hv1.size
 obtain⟨y,hv,hy,hyl⟩:=Gm (a:=a) (b:=b) hA (Ev.keeps _ _ _ hv1 hl) hap hr hm (fun k h e=>by have:=hu k h;have:=hown0 k e;omega) ho hg
 have hrows:y.rows=A.rows++rows':=by rw [hy]
 have qh:∀ k,y.uses k→k≠g∧B≤k:=fun k h=>by
  rcases h with⟨_,ad,e,rfl⟩|⟨r,hr0,h⟩
  · have e2:(SF av (A.rows.length+rows'.length) cv).ownBlock=some ad.block:=by rw [hv,e];rfl
    rcases hat with h|h
    · exact⟨by have:=hown0 _ (h.symm.trans e2);omega,(ho.lt _ e2).1⟩
    · rw [h] at e2
      exact⟨by have:=SK e2;omega,(ho.lt _ (h.trans e2)).1⟩
  · rw [hrows] at hr0
    rcases Sw.1 hr0 with hr0|hr0
    · have:=qn k (.inr ⟨r,hr0,h⟩);omega
    · have:=hu k (.inr ⟨r,hr0,h⟩);omega
 refine⟨y,by rw [hy],by rw [hrows,List.map_append,hm],Ev.frame hyl (by simp) fun k h=>Sn.heap_setCell _ _ _ _ (qh k h).1,fun k h=>(qh k h).1,fun k h=>(qh k h).2,?_,hk⟩
 rw [h8]
 congr 2
 rw [hv]
 rw [hy]
 simp [Ev.enc]
def fW (e:EvC)(fr row id:Int)(w:Sh)(en:Ending)(w':Sh):Prop:=∃ A B:Ev,en=.returned (.tuple #[.agg A.enc.toArray,.agg B.enc.toArray,.int .i64 (bg e fr row id)])∧(bg e fr row id=0→A.c=gh e fr row∧B.c=iS e fr row id)∧A.lies w'∧B.lies w'∧(∀ k,A.uses k→w.heap.size≤k)∧(∀ k,B.uses k→w.heap.size≤k)∧Sn w.heap.size w w'
theorem fW.bad {e:EvC} {fr row id:Int} {w w':Sh} {q:Int} (hq:bg e fr row id=q)(h0:q≠0)(h:Sn w.heap.size w w'):fW e fr row id w (.returned (.tuple #[.agg zeE,.agg zeE,.int .i64 q])) w':=by
 subst hq
 exact⟨oI,oI,rfl,fun e=>absurd e h0,jF _,jF _,fun k q=>(jE k q).elim,fun k q=>(jE k q).elim,h⟩
theorem dF {x:Ev} {B:Nat} {w:Sh} {xs:List Sk} (h:w.ownsRow B 75 1 (.slice x.at_ x.rows.length x.cap) x.rows.length xs):x.rows=[]∨∃ b,x.at_=some ⟨b,0,none⟩∧x.rows.length≤x.cap:=by
 rcases h.2 with⟨_,h0⟩|⟨g',cap',cur,h0,_,_,hnc,_⟩
 · exact .inl (List.length_eq_zero_iff.1 h0)
 · simp only [SF.injEq] at h0
   obtain⟨h1,_,h3⟩:=h0
   exact .inr ⟨g',h1,by rw [h3];exact hnc⟩
structure qG (c:EvC)(B0 g1 g2:Nat)(A B:Ev)(w:Sh):Prop where
 ac:A.c=c
 bc:B.c=c
 al:A.lies w
 bl:B.lies w
 af:A.rows=[]∨∃ b,A.at_=some ⟨b,0,none⟩∧A.rows.length≤A.cap
 bf:B.rows=[]∨∃ b,B.at_=some ⟨b,0,none⟩∧B.rows.length≤B.cap
 au:∀ k,A.uses k→k≠g1∧k≠g2∧B0≤k
 bu:∀ k,B.uses k→k≠g1∧k≠g2∧B0≤k
 z1:w.heap[g1]? =some (.cells A.enc.toArray 72 (0,0))
 z2:w.heap[g2]? =some (.cells B.enc.toArray 72 (0,0))
 n1:B0≤g1
 n2:B0≤g2
 ne:g1≠g2
theorem yV {c:EvC} {B0 g1 g2 k1 k2:Nat} {A B:Ev} {v w:Sh} (ac:A.c=c)(bc:B.c=c)(al:A.lies v)(bl:B.lies v)(af:A.rows=[]∨∃ b,A.at_=some ⟨b,0,none⟩∧A.rows.length≤A.cap)(bf:B.rows=[]∨∃ b,B.at_=some ⟨b,0,none⟩∧B.rows.length≤B.cap)
 (au:∀ k,A.uses k→k≠g1∧k≠g2∧B0≤k) (bu:∀ k,B.uses k→k≠g1∧k≠g2∧B0≤k) (z1:v.heap[g1]? =some (.cells zeE 72 (0,0))) (z2:v.heap[g2]? =some (.cells zeE 72 (0,0))) (n1:B0≤g1) (n2:B0≤g2) (ne:g1≠g2)
 (hw:(k1=g1∧k2=g2∧w=(v.setRow g1 A.enc.toArray).setRow g2 B.enc.toArray)∨(k1=g2∧k2=g1∧w=(v.setRow g2 B.enc.toArray).setRow g1 A.enc.toArray)):qG c B0 g1 g2 A B w:=by
 have hsz:w.heap.size=v.heap.size:=by
  rcases hw with⟨_,_,rfl⟩|⟨_,_,rfl⟩
  · rw [size_setRow,size_setRow]
  · rw [size_setRow,size_setRow]
 have hoff:∀ k,k≠g1→k≠g2→w.heap[k]? =v.heap[k]?:=fun k h1 h2=>by
  rcases hw with⟨_,_,rfl⟩|⟨_,_,rfl⟩
  · rw [aM _ _ _ _ h2,aM _ _ _ _ h1]
  · rw [aM _ _ _ _ h1,aM _ _ _ _ h2]
 refine⟨ac,bc,Ev.frame al (by omega) fun k h=>hoff k (au k h).1 (au k h).2.1,Ev.frame bl (by omega) fun k h=>hoff k (bu k h).1 (bu k h).2.1,af,bf,au,bu,?_,?_,n1,n2,ne⟩
 · rcases hw with⟨_,_,rfl⟩|⟨_,_,rfl⟩
   · rw [aM _ _ _ _ ne];exact Sm _ _ _ _ 72 (0,0) z1
   · exact Sm _ _ _ _ 72 (0,0) ((aM _ _ _ _ ne).trans z1)
 · rcases hw with⟨_,_,rfl⟩|⟨_,_,rfl⟩
   · exact Sm _ _ _ _ 72 (0,0) ((aM _ _ _ _ ne.symm).trans z2)
   · rw [aM _ _ _ _ ne.symm];exact Sm _ _ _ _ 72 (0,0) z2
theorem vK {may:Nat→Prop} {g:Nat} (hm:may g)(w:Sh)(cs:Array Sk):Kept may w (w.setRow g cs):=⟨rfl,rfl,rfl,by rw [size_setRow];exact Sz _,fun k _ hn=>aM _ _ _ _ (fun e=>hn (e▸hm))⟩
theorem aR {w:Sh} {g:Nat} {o:Obj} (h:w.heap[g]? =some o):g<w.heap.size:=(SD.1 h).1
theorem ah.take {α:Type} {k:Nat} {enc:α→List Sk} {Ok:Sh→α→Prop} {w:Sh} {a:Option Addr} {xs:List α} (h:ah k enc Ok w a xs)(n:Nat):ah k enc Ok w a (xs.take n):=by
 rcases h with rfl|⟨b,off,rfl,hb,hc⟩
 · exact .inl (by simp)
 · refine .inr ⟨b,off,rfl,hb,fun i x hx=>hc i x ?_⟩
   rw [List.getElem?_take] at hx
   split at hx
   · exact hx
   · cases hx
theorem ah.drop {α:Type} {enc:α→List Sk} {Ok:Sh→α→Prop} {w:Sh} {b off:Nat} {xs:List α} (h:ah 1 enc Ok w (some ⟨b,off,none⟩) xs)(n:Nat):ah 1 enc Ok w (some ⟨b,off+n,none⟩) (xs.drop n):=by
 rcases h with rfl|⟨b',off',e,hb,hc⟩
 · exact .inl (by simp)
 · simp only [SL,Addr.mk.injEq,and_true] at e
   obtain⟨rfl,rfl⟩:=e
   refine .inr ⟨b,off+n,rfl,hb,fun i x hx=>?_⟩
   rw [List.getElem?_drop] at hx
   have:=hc (n+i) x hx
   refine⟨fun j v hv=>?_,this.2⟩
   rw [show off+n+i*1+j=off+(n+i)*1+j by omega]
   exact this.1 j v hv
theorem zk {a:Option Addr} {rows:List Row} {n k:Nat} (h:dh a (rows.take n) k):dh a rows k:=by
 rcases h with⟨h,q⟩|⟨r,hr,q⟩
 · exact .inl ⟨fun e=>h (by rw [e];simp),q⟩
 · exact .inr ⟨r,List.mem_of_mem_take hr,q⟩
theorem zm {a:Option Addr} {b n k:Nat} {rows:List Row} (ha:a=some ⟨b,0,none⟩)(h:dh (some ⟨b,n,none⟩) (rows.drop n) k):dh a rows k:=by
 rcases h with⟨h,ad,e,q⟩|⟨r,hr,q⟩
 · refine .inl ⟨fun e=>h (by rw [e];simp),⟨b,0,none⟩,ha,?_⟩
   simp only [SL] at e
   subst e
   exact q
 · exact .inr ⟨r,List.mem_of_mem_drop hr,q⟩
theorem yW {e:Ev} {fr id:Int} {n B0 g1 g2 ba bb:Nat} {A B A1 B1 A2 B3:Ev} {w wc W V w':Sh} (hm:qG e.c B0 g1 g2 A B wc)(hsz:w.heap.size+3≤B0)(hsc:B0≤wc.heap.size)(hbc:Sn w.heap.size w wc)(hk1:Kept (fun b=>b=g1∨b=g2) wc W)(hk3:Kept (fun b=>b=g1∨b=g2) W V)(hk:Kept (fun b=>b=w.heap.size+1∨b=w.heap.size+1+1) V w')
 (hla:A1.rows.length=e.rows.length∧A1.at_=some ⟨ba,0,none⟩∧A1={ A with out:=fr }) (hlb:B1.rows.length=e.rows.length∧B1.at_=some ⟨bb,0,none⟩∧B1={ B with inn:=fr })
 (hA2:A2={ A1 with cap:=n,rows:=A1.rows.take n }) (hB3:B3={ B1 with id:=id,at_:=some ⟨bb,n,none⟩,cap:=B1.cap-n,rows:=B1.rows.drop n }) :
 (0:Int)=0∧A2.c=gh e.c fr n∧B3.c=iS e.c fr n id∧A2.lies w'∧B3.lies w'∧(∀ k,A2.uses k→w.heap.size≤k)∧(∀ k,B3.uses k→w.heap.size≤k)∧Sn w.heap.size w w':=by
 have h1:=hk1.size
 have h3:=hk3.size
 have h4:=hk.size
 have hn1:=hm.n1
 have hn2:=hm.n2
 have hoff:∀ k,k<wc.heap.size→B0≤k→k≠g1→k≠g2→w'.heap[k]? =wc.heap[k]?:=fun k q1 q2 q3 q4 =>
  (hk.block k (by omega) (by omega)).trans ((hk3.block k (by omega) (by omega)).trans (hk1.block k q1 (by omega)))
 have cq:A.lies w':=Ev.frame hm.al (by omega) fun k h=>hoff k (Ev.uses_lt hm.al h) (hm.au k h).2.2 (hm.au k h).1 (hm.au k h).2.1
 have hBl:B.lies w':=Ev.frame hm.bl (by omega) fun k h=>hoff k (Ev.uses_lt hm.bl h) (hm.bu k h).2.2 (hm.bu k h).1 (hm.bu k h).2.1
 obtain⟨_,ha2,K9⟩:=hla
 obtain⟨_,hb2,hb3⟩:=hlb
 refine⟨rfl,?_,?_,?_,?_,?_,?_,?_⟩
 · rw [←hm.ac,hA2,K9]
   simp [Ev.c,gh,List.map_take]
 · rw [←hm.bc,hB3,hb3]
   simp [Ev.c,iS,List.map_drop]
 · rw [hA2,K9]
   exact ah.take cq n
 · rw [hB3]
   have:bN w' B1.at_ B1.rows:=by rw [hb3];exact hBl
   rw [hb2] at this
   have h5:=ah.drop this n
   rw [SB] at h5
   exact h5
 · rw [hA2,K9]
   intro k hk'
   have:=(hm.au k (zk hk')).2.2
   omega
 · intro k hk'
   rw [hB3,hb3] at hk'
   rw [hb3] at hb2
   have:=(hm.bu k (zm hb2 hk')).2.2
   omega
 · refine((hbc.trans (hk1.below (by omega) fun k hk' e=>by omega)).trans (hk3.below (by omega) fun k hk' e=>by omega)).trans (hk.below (by omega) fun k hk' e=>by omega)
end Go.Proofs.YtjebaagkomejaaaGreatDoor
