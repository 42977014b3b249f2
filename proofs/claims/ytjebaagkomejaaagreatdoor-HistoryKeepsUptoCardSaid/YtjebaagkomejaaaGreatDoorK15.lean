/- event.Plain: the text of an event; document.runes: the characters of a text. event.Plain: the text of an event; document.runes: the characters of a text. -/
import Derived.Test.YtjebaagkomejaaaGreatDoorK13
set_option linter.unusedVariables false
set_option linter.unusedSimpArgs false
set_option maxRecDepth 100000
set_option maxHeartbeats 12800000
open Go.Lib renaming hid→h_
open Go renaming World→Sj,Value→Sk,Calls→Sl,heap_alloc_last→Sm
open Go.Lib renaming join→Sn
open Go.Value renaming string→Sp,int→Sq
open Go.RowKit renaming Below→Sr
open Go.RowKit.Below renaming refl→Ss
open Nat renaming le_refl→St,lt_of_lt_of_le→Su,zero_add→Sv,le_trans→Sw,add_zero→Sx
open Go.World renaming cell?_alloc_lt→Sy,ownsRow_nil→Sz,iterPos→SA
open List renaming length_map→SB,mem_of_getElem?→SC,take_length→SD,find?_cons→SF
namespace Go.Proofs.YtjebaagkomejaaaGreatDoor
open Go.RowKit
theorem Tryz.info21m:(Tryz.prog.info? 21).map (fun i=>(i.zero,i.size,i.bytes))=some (some (.int .i32 0),1,4):=by kernel_rfl
theorem j6 {w:Sj} {base e size n:Nat} {v:Sk} {xs:List Sk} (h:w.ownsRow base e size v n xs):∃ a c,v=.slice a n c:=by
 rcases h.2 with⟨rfl,h0⟩|⟨g',cap,cur,rfl,_⟩
 · exact⟨none,0,by rw [h0]⟩
 · exact⟨_,cap,rfl⟩
theorem d_:∀ l:List Run,kG l=iC l
 | []=>rfl
 | x::l=>by rw [kG,iC,d_ l]
theorem sd:∀ rows:List (List Run),Sn ((rows.map plain).map (·.data.toList)) [10]=dj rows
 | []=>rfl
 | [r]=>by
   rw [dj,d_]
   simp [Sn,plain]
 | r::q::l=>by
   have ih:=sd (q::l)
   rw [dj,←ih,d_]
   · simp only [List.map_cons,Lib.join_cons,plain]
     simp [Lib.joinTail]
   · simp
theorem iK {n:Nat}:∀ rows:List (List Run),(∀ r∈rows,cH r≤n)→(dj rows).length≤rows.length*(n+1)
 | [],_=>by simp [dj]
 | [r],h=>by
   have:=h r (by simp)
   rw [dj,d_,gQ]
   simp
   omega
 | r::q::l,h=>by
   have ih:=iK (q::l) (fun x hx=>h x (by simp [hx]))
   have:=h r (by simp)
   have e:(dj (r::q::l)).length=(kG r).length+((dj (q::l)).length+1):=by
    rw [dj]
    · simp
    · simp
   rw [e,d_,gQ]
   rw [List.length_cons,Nat.add_mul]
   omega
theorem Cc (B:Nat)(v:Sk)(ws:List ByteArray)(sep:ByteArray)(w:Sj)(h:w.ownsRow B 9 1 v ws.length (ws.map Sp))(hl:ws.length≤4000000)(hj:(Sn (ws.map (·.data.toList)) sep.data.toList).length≤140737488355328) :
 Sl Tryz.prog 185 #[v,.string sep] w fun e w'=>e=.returned (.string ⟨(Sn (ws.map (·.data.toList)) sep.data.toList).toArray⟩)∧Sr w.heap.size w w':=by
 rcases Nat.eq_zero_or_pos ws.length with h0|h0
 · obtain rfl:=List.eq_nil_of_length_eq_zero h0
   obtain⟨a,c,rfl⟩:=j6 h
   refine(Tryz.strings_Join_none a c sep w).mono fun e w' p=>?_
   obtain⟨rfl,rfl⟩:=p
   exact⟨rfl,Ss _ _⟩
 · rcases h.2 with⟨_,hn⟩|⟨g,cap,cur,rfl,hB,hc,hnc,r⟩
   · omega
   · refine Tryz.strings_Join g 0 cap ws sep w (fun j x hx=>?_) (h.lt g rfl).2 (by omega) hnc hj
     rw [Sv,h.cellAt j (by have:=(List.getElem?_eq_some_iff.1 hx).1;omega)]
     simp [hx]
def kt (s:ByteArray)(w:Sj)(v:Sk)(wr:Sj):Prop :=
 ∃ (pos b:Nat) (xs:List Nat),xs++c_ s b pos=runes s∧s.size≤pos+b∧xs.length≤pos∧xs.length≤s.size∧wr.ownsRow (w.heap.size+1) 21 1 v xs.length (xs.map fun n:Nat=>Sq .i32 (n:Int))∧wr.heap[w.heap.size]? =some (.stringIter s pos)∧Sr w.heap.size w wr
def ks (s:ByteArray)(w:Sj)(e:Ending)(w':Sj):Prop:=∃ v,e=.returned v∧w'.ownsRow w.heap.size 21 1 v (runes s).length ((runes s).map fun n:Nat=>Sq .i32 (n:Int))∧Sr w.heap.size w w'
theorem A9 {w:Sj} {B e k n:Nat} {v:Sk} {xs:List Sk} (h:w.ownsRow (B+1) e k v n xs):w.ownsRow B e k v n xs :=
 ⟨h.1,h.2.imp id fun⟨g,cap,cur,q1,q2,q3⟩=>⟨g,cap,cur,q1,by omega,q3⟩⟩
theorem jx (s:ByteArray)(w:Sj)(hs:s.size≤20000000000000):Sl Tryz.prog 184 #[.string s] w (ks s w):=by
 obtain⟨i0,hi,hz0,hz1,hz2⟩:=info_parts Tryz.info21m
 have HI:=h_ hi;have J0:=h_ hz0;have J1:=h_ hz1;have J2:=h_ hz2
 clear hi hz0 hz1 hz2
 have HQ:=h_ (fun(v:Sk) (xs:List Nat) (w':Sj) (he:xs=runes s) (ho:w'.ownsRow (w.heap.size+1) 21 1 v xs.length (xs.map fun n:Nat=>Sq .i32 (n:Int))) (hb:Sr w.heap.size w w')=>(show ks s w (.returned v) w' from⟨v,rfl,by subst he;exact A9 ho,hb⟩))
 generalize ks s w=Q at *
 go_enter Tryz.func184,Tryz.ntmps184
 go_wp2_with fail
 go_loopw [3] (fun v wr=>kt s w v wr) (fun _ wr=>s.size-wr.iterPos w.heap.size)
 case atStart=>exact⟨0,s.size,[],rfl,by omega,by simp,by simp,Sz _ _ _ _,Sj.iter_heap w s 0,(Ss _ _).alloc (St _) _⟩
 case round =>
  obtain⟨pos,b,xs,hp,hb,hkp,hks,hown,hit,hbe⟩:=hrel
  have hpos:=h_ (show wr.iterPos w.heap.size=pos by simp [SA,hit])
  by_cases hlt:pos<s.size
  · obtain⟨c,rfl,hn⟩:=ia s b pos hlt hb
    have hwd:=width_pos s pos hlt
    have hle:=decode_le s pos
    have hnx:∀ ty,(Instr.next (.pointer (some ⟨w.heap.size,0,none⟩)) true ty).run Tryz.prog wr=_:=fun ty=>Lib.run_next_any_at wr w.heap.size s pos ty hit hlt
    rw [hn] at hp
    have HP:=h_ hp
    generalize (Utf8.decode s pos).1=x at *
    generalize (Utf8.decode s pos).2=d at *
    have hgl:w.heap.size<wr.heap.size:=(Array.getElem?_eq_some_iff.1 hit).1
    have hown2:=ownsRow_iterAt hown (show w.heap.size<w.heap.size+1 by omega) s (pos+d)
    have HI2:=h_ (Lib.iterAt_heap wr w.heap.size s pos (pos+d) hit)
    have hsz:(wr.iterAt w.heap.size s (pos+d)).heap.size=wr.heap.size:=Lib.iterAt_size _ _ _ _
    have pJ:=h_ (Lib.below_iterAt hbe (St _) s (pos+d))
    have wU:=h_ (fun j hj=>(hown.lt j hj).1)
    clear hown hn hit hbe hp
    go_wp2_with (at_builtin;refine aX _ _ rfl (.tmp 11) (.tmp 13) 203 rfl (w.heap.size+1) 21 i0 _ 1 4 Tryz.underlying203 HI.out J0.out J1.out J2.out rfl (by decide) _ _ _ rfl hown2 _ rfl (by simp [hsz]) rfl ?h1 ?h63 ?hb ?hbase ?_)
    case h1=>first|rfl|(intro u hu;simp at hu;subst hu;rfl)
    case h63=>unfold maxLen;omega
    case hb=>omega
    case hbase=>omega
    intro v' w2 hown' hgrow
    have Ho:w2.heap[w.heap.size]? =some (.stringIter s (pos+d)):=by
     rw [hgrow.block w.heap.size (by simp;omega) (fun h=>by have:=wU.out w.heap.size h.symm;omega),Sr.heap_alloc _ _ _ (by omega)]
     exact HI2.out
    have R:kt s w v' w2:=⟨pos+d,c,xs++[x],by rw [List.append_assoc];exact HP.out,by omega,by simp;omega,by simp;omega,by simpa using hown',Ho,(pJ.out.alloc (by omega) _).grown hgrow (by simp;omega) (fun j hj=>by have:=wU.out j hj;omega)⟩
    have Au:w2.iterPos w.heap.size=pos+d:=by simp [SA,Ho]
    clear hown' hgrow hown2
    go_wp2_with fail
    go_roundw
    case rel=>exact R
    case measure=>rw [Au,hpos.out];omega
  · have hnx:∀ ty,(Instr.next (.pointer (some ⟨w.heap.size,0,none⟩)) true ty).run Tryz.prog wr=_:=fun ty=>Lib.run_next_end_at wr w.heap.size s pos ty hit hlt
    rw [gK s b pos hlt,List.append_nil] at hp
    have HF:=h_ (HQ.out u3 xs wr hp hown hbe)
    clear hown hit hbe hp
    go_wp2_with fail
    exact HF.out
theorem kg (x:Ev)(w:Sj)(hx:x.lies w)(hf:x.fits):Sl Tryz.prog 130 #[.agg x.enc.toArray] w fun e w'=>e=.returned (.string (ek (some x.c)))∧Sr w.heap.size w w':=by
 generalize hQ:(fun(e:Ending) (w':Sj)=>e=.returned (.string (ek (some x.c)))∧Sr w.heap.size w w')=Q
 have hrf:=hf.2.2.2.2.2.2.2.1
 have hl:=hf.2.2.2.2.2.2.2.2
 have HRW:=h_ (fun(w1:Sj) (hb:Sr w.heap.size w w1)=>bx.later hx hb)
 have HT:=sd (x.rows.map Row.runs)
 rw [show(x.rows.map Row.runs).map plain=x.rows.map fun r=>plain r.runs from by rw [List.map_map];rfl] at HT
 have lK:=h_ (show(Sn ((x.rows.map fun r=>plain r.runs).map (·.data.toList)) [10]).length≤140737488355328 from by
  have h1:=iK (n:=4000000) (x.rows.map Row.runs) (fun r hr=>by
   obtain⟨q,hq,rfl⟩:=List.mem_map.1 hr
   exact(hrf q hq).2.2)
  rw [←HT,SB] at h1
  have h2:=Nat.mul_le_mul_right 4000001 hl
  exact Sw h1 (Sw h2 (by decide)))
 have HQ:=h_ (fun(w':Sj) (hb:Sr w.heap.size w w')=>(show Q (.returned (.string ⟨(Sn ((x.rows.map fun r=>plain r.runs).map (·.data.toList)) (⟨#[10]⟩:ByteArray).data.toList).toArray⟩)) w' from hQ▸⟨by
  show _=Ending.returned (.string ⟨(dj (x.rows.map Row.runs)).toArray⟩)
  rw [←HT],hb⟩))
 have IS:=h_ hrf
 clear hQ hrf HT hx hf
 obtain⟨id,inn,out,reg,kind,sp,xa,xc,xr⟩:=x
 simp only at HRW lK HQ IS hl
 obtain⟨j0,hj,hy0,hy1,hy2⟩:=info_parts Tryz.info9
 have JI:=h_ hj;have J0:=h_ hy0;have J1:=h_ hy1;have J2:=h_ hy2
 have HST:=h_ (fun(W w1 w2:Sj) (k:Nat) (v v':Sk) (r:Row) (cs:Array Sk) (hr:xr[k]? =some r)=>kz.step (K:=9) (enc:=Sp) (key:=fun r:Row=>plain r.runs) (zs:=xr) (W:=W) (w1:=w1) (w2:=w2) (k:=k) (v:=v) (v':=v') (x:=r) (cs:=cs) hr)
 have yN:Hid (∀ (W wr:Sj) (k:Nat) (v:Sk),kz 9 Sp (fun r:Row=>plain r.runs) xr W k v wr→wr.ownsRow W.heap.size 9 1 v k (((xr.take k).map fun r:Row=>plain r.runs).map Sp)∧Sr W.heap.size W wr):=h_ (fun _ _ _ _ h=>h)
 have By:Hid (∀ W:Sj,kz 9 Sp (fun r:Row=>plain r.runs) xr W 0 (.slice none 0 0) W):=h_ (fun W=>⟨Sz _ _ _ _,Ss _ _⟩)
 have fR:=h_ (fun(W wr:Sj) (v:Sk) (h:kz 9 Sp (fun r:Row=>plain r.runs) xr W xr.length v wr)=>Cc W.heap.size v (xr.map fun r=>plain r.runs) ⟨#[10]⟩ wr h.all (by rw [SB];exact hl) lK.out)
 generalize kz 9 Sp (fun r:Row=>plain r.runs) xr=R at *
 obtain⟨cells,hcells⟩:∃ cells:Nat→List Sk,cells=fun k=>(((xr.take k).map fun r:Row=>plain r.runs).map Sp):=⟨_,rfl⟩
 simp only [show ∀ k,(((xr.take k).map fun r:Row=>plain r.runs).map Sp)=cells k from fun k=>by rw [hcells]] at yN HST
 generalize (⟨(Sn ((xr.map fun r=>plain r.runs).map (·.data.toList)) (⟨#[10]⟩:ByteArray).data.toList).toArray⟩:ByteArray)=S at *
 clear hj hy0 hy1 hy2 hcells lK
 simp only [Ev.enc]
 have hk1:=Sm w (.cells (Ev.enc ⟨id,inn,out,reg,kind,sp,xa,xc,xr⟩).toArray 72)
 have HB1:=h_ (show Sr w.heap.size w (w.alloc (.cells (Ev.enc ⟨id,inn,out,reg,kind,sp,xa,xc,xr⟩).toArray 72)) from(Ss _ _).alloc (St _) _)
 simp only [Ev.enc] at hk1 HB1
 go_enter Tryz.func130,Tryz.ntmps130
 go_wp2_with fail
 generalize hW:w.alloc (.cells #[.int .i64 id,.int .i64 inn,.int .i64 out,.string reg,.int .u8 kind,.string sp,.slice xa xr.length xc] 72)=W at *
 have hs1:=HB1.out.size
 clear hW hk1
 go_loopw [3,9] (fun v i wr=>∃ k:Nat,k≤xr.length∧i=.int .i64 k∧R W k v wr) (fun _ i _=>xr.length-(intOf i).toNat)
 case atStart=>exact⟨0,by omega,rfl,By.out _⟩
 case round =>
  obtain⟨k,hk,rfl,hrel⟩:=hrel
  have EF:=yN.out _ _ _ _ hrel
  have Lh:=h_ (HB1.out.trans (EF.2.mono hs1))
  by_cases hlt:k<xr.length
  · obtain⟨b,off,r,rfl,hbl,hrx,hc,hrl⟩:=(HRW.out _ Lh.out).at_ hlt
    have hbs:=EF.2.size
    have Lq:=h_ (fun o=>mI r (wr.alloc o) (Row.keeps _ _ _ ((Ss _ _).alloc (St _) o) hrl) (IS.out r (SC hrx)))
    have oQ:=h_ (fun(o:Obj) (w2:Sj) (h1:Sr (wr.alloc o).heap.size (wr.alloc o) w2)=>(show Sr wr.heap.size wr w2 from((Ss _ _).alloc (St _) _).trans (h1.mono (by simp))))
    have HO:=h_ (fun(w2:Sj) (hb:Sr wr.heap.size wr w2)=>aI EF.1 hb)
    have jX:=h_ (fun(w2:Sj) (hb:Sr wr.heap.size wr w2)=>(show Sr W.heap.size W w2 from EF.2.trans (hb.mono EF.2.size)))
    have HS2:=h_ (fun(w2 w3:Sj) (v':Sk) (cs:Array Sk)=>HST.out W w2 w3 k u3 v' r cs hrx)
    have d0:=hc 0 _ rfl
    obtain⟨ra,rc,rr⟩:=r
    simp only [Row.enc,Sx,Nat.mul_one] at Lq d0 HS2
    clear hc hrx hrel EF hrl
    generalize plain rr=S1 at *
    go_wp2_with fail
    refine(Lq.out _).mono ?_
    rintro e w2 ⟨rfl,hb2⟩
    have hb3:=oQ.out _ _ hb2
    have hs2:=hb3.size
    have tK:=h_ (HO.out _ hb3)
    have HB3:=h_ (jX.out _ hb3)
    clear hb2 hb3 HO Lq oQ d0
    go_wp2_with (at_builtin;refine aX _ _ rfl (.tmp 13) (.tmp 16) 173 rfl W.heap.size 9 j0 _ 1 16 Tryz.underlying173 JI.out J0.out J1.out J2.out rfl (by decide) _ _ _ rfl tK.out _ rfl rfl rfl ?h1 ?h63 ?hb ?hbase ?_)
    case h1=>first|rfl|(intro u hu;simp at hu;subst hu;rfl)
    case h63=>unfold maxLen;omega
    case hb=>omega
    case hbase=>omega
    intro v' w3 hown' hgrow
    have RR:=h_ (HS2.out w2 w3 v' _ HB3.out tK.out rfl hown' hgrow)
    clear hown' hgrow
    go_wp2_with fail
    go_roundw
    case rel=>exact⟨k+1,by omega,by go_num,RR.out⟩
    case measure=>simp [intOf];omega
  · obtain rfl:k=xr.length:=by omega
    have tW:=h_ (fR.out _ _ _ hrel)
    have wR:=h_ (fun(w':Sj) (h:Sr wr.heap.size wr w')=>Lh.out.trans (h.mono Lh.out.size))
    clear hrel EF
    go_wp2_with fail
    refine tW.out.mono ?_
    rintro e w2 ⟨rfl,hb2⟩
    have HB2:=h_ (wR.out _ hb2)
    clear hb2
    go_wp2_with fail
    exact HQ.out _ HB2.out
structure Ed where
 op:Int
 id:Int
 other:Int
 inn:Int
 out:Int
 frame:Int
 row:Int
 frm:Int
 til:Int
 kind:Int
 color:Int
 it:Bool
 un:Bool
 name:ByteArray
 text:ByteArray
 reg:Reg
 at_:Option Addr
 cap:Nat
 rows:List Row
def Ed.c (x:Ed):EdC:=⟨x.op,x.id,x.other,x.inn,x.out,x.frame,x.row,x.frm,x.til,x.kind,x.color,x.it,x.un,x.name,x.text,x.reg,x.rows.map Row.runs⟩
def Ed.enc (x:Ed):List Sk:=[.int .u8 x.op,.int .i64 x.id,.int .i64 x.other,.int .i64 x.inn,.int .i64 x.out,.int .i64 x.frame,.int .i64 x.row,.int .i64 x.frm,.int .i64 x.til,.int .u8 x.kind,.int .u8 x.color,.bool x.it,.bool x.un,.string x.name,.string x.text,
 .string x.reg.name,.int .i64 x.reg.top,.int .i64 x.reg.aZ,.int .i64 x.reg.left,.int .i64 x.reg.width,.int .u8 x.reg.align,.bool x.reg.bottom,.slice x.at_ x.rows.length x.cap]
def Ed.lies (w:Sj)(x:Ed):Prop:=bx w x.at_ x.rows
def Ed.fits (x:Ed):Prop:=(0≤x.op∧x.op≤255)∧(i64 x.id∧i64 x.other∧i64 x.inn∧i64 x.out∧i64 x.frame∧i64 x.row∧i64 x.frm∧i64 x.til)∧(0≤x.kind∧x.kind≤255)∧(0≤x.color∧x.color≤255)∧x.name.size≤4000000∧x.text.size≤4000000∧x.reg.fits∧(∀ r∈x.rows,r.fits)∧x.rows.length≤4000000
theorem Ed.later {w w':Sj} {x:Ed} (h:x.lies w)(hb:Sr w.heap.size w w'):x.lies w':=bx.later h hb
theorem dX:(Tryz.prog.info? 40).map (·.size)=some 23:=by kernel_rfl
theorem aD (n a b:Int)(w:Sj):Sl Tryz.prog 122 #[.int .i64 n,.int .i64 a,.int .i64 b] w fun e w'=>e=.returned (.bool (inB n a b))∧w'=w:=by
 have h:inB n a b=(decide (a≤n)&&decide (n≤b)):=by unfold inB;simp
 go_enter Tryz.func122,Tryz.ntmps122
 by_cases h1:a≤n
 · go_wp2_with fail
   go_ret
   exact⟨by rw [h];simp [h1],rfl⟩
 · have h2:decide (a≤n)=false:=decide_eq_false h1
   rw [h2] at h
   rw [h]
   go_wp2_with fail
   go_ret
   exact⟨rfl,rfl⟩
theorem dq (b:Bool)(e:Int)(w:Sj):Sl Tryz.prog 124 #[.bool b,.int .i64 e] w fun en w'=>en=.returned (.int .i64 (if b=true then 0 else e))∧w'=w:=by
 go_enter Tryz.func124,Tryz.ntmps124
 cases b
 · go_wp2_with fail
   go_ret
   exact⟨rfl,rfl⟩
 · go_wp2_with fail
   go_ret
   exact⟨rfl,rfl⟩
def hasB (u b:Int):Bool:=bits BinOp.and IntKind.i64 u b != 0
theorem eh (u b:Int)(g:Nat)(w:Sj)(h:w.cell? ⟨g,0,none⟩=some (.int .i64 u)):Sl Tryz.prog 73 #[.int .i64 b,.pointer (some ⟨g,0,none⟩)] w fun e w'=>e=.returned (.bool (hasB u b))∧w'=w:=by
 go_enter Tryz.func73,Tryz.ntmps73
 go_wp2_with fail
 go_ret
 exact⟨rfl,rfl⟩
theorem nw (l:List (List Run))(k:Nat)(r:List Run)(h:l[k]? =some r)(h0:fT r≠0):dg (l.drop k)=fT r:=by
 rw [ck l k r h,dg,if_pos h0]
theorem nx (l:List (List Run))(k:Nat)(r:List Run)(h:l[k]? =some r)(h0:fT r=0):dg (l.drop k)=dg (l.drop (k+1)):=by
 rw [ck l k r h,dg,if_neg (fun q=>q h0)]
theorem tm (a:Option Addr)(cap:Nat)(rows:List Row)(w:Sj)(hE:Env w)(h:bx w a rows)(hf:∀ r∈rows,r.fits)(hl:rows.length≤4000000):Sl Tryz.prog 81 #[.slice a rows.length cap] w fun e w'=>e=.returned (.int .i64 (dw (rows.map Row.runs)))∧Sr w.heap.size w w':=by
 have HL:=h_ h
 have js:=h_ (fun(r:Row) (hr:r∈rows) (w1:Sj) (hb:Sr w.heap.size w w1) (hl:r.lies w1)=>jz r w1 (hE.below hb (St _)) hl (hf r hr))
 have hE0:dw (rows.map Row.runs)=if rows.length<1∨4<rows.length then 9 else dg (rows.map Row.runs):=by unfold dw;rw [SB]
 have HQ:=h_ (fun(q:Int) (hq:dw (rows.map Row.runs)=q) (w':Sj) (hb:Sr w.heap.size w w')=>(show Ending.returned (.int .i64 q)=Ending.returned (.int .i64 (dw (rows.map Row.runs)))∧Sr w.heap.size w w' from⟨by rw [hq],hb⟩))
 have mg:=h_ hE0
 clear h hf hE hE0
 go_enter Tryz.func81,Tryz.ntmps81
 by_cases h1:rows.length<1
 · have HF:=h_ (HQ.out 9 (mg.out.trans (if_pos (.inl h1))) w (Ss _ _))
   have h1':rows.length=0:=by omega
   have OJ:(rows.length:Int)<1:=by omega
   clear HQ mg h1 h1' HL js
   go_wp2_with (refine dL (.tmp 10) 38 rfl a rows.length cap rfl Tryz.underlying38 (by rfl) ?_)
   go_ret
   exact HF.out
 · have OJ:(1:Int)≤(rows.length:Int):=by omega
   by_cases h2:4<rows.length
   · have HF:=h_ (HQ.out 9 (mg.out.trans (if_pos (.inr h2))) w (Ss _ _))
     have OH:(4:Int)<(rows.length:Int):=by omega
     clear HQ mg h1 HL js
     go_wp2_with (refine dL (.tmp 10) 38 rfl a rows.length cap rfl Tryz.underlying38 (by rfl) ?_)
     go_ret
     exact HF.out
   · have OH:(rows.length:Int)≤4:=by omega
     have HP:=h_ (show dg ((rows.map Row.runs).drop 0)=dw (rows.map Row.runs) from by rw [List.drop_zero,mg.out,if_neg (by omega)])
     clear mg h1 h2
     generalize dw (rows.map Row.runs)=G at *
     go_wp2_with (refine dL (.tmp 10) 38 rfl a rows.length cap rfl Tryz.underlying38 (by rfl) ?_)
     go_loopw [16] (fun kv wr=>∃ k:Nat,k≤rows.length∧kv=.int .i64 k∧dg ((rows.map Row.runs).drop k)=G∧Sr w.heap.size w wr) (fun kv _=>rows.length-(intOf kv).toNat)
     case atStart=>exact⟨0,by omega,rfl,HP.out,Ss _ _⟩
     case round =>
      clear HP
      obtain⟨k,hk,rfl,hp,hb⟩:=hrel
      by_cases hlt:k<rows.length
      · obtain⟨b,off,r,rfl,hbl,hx,hc,hrl⟩:=ah.at_ (HL.out.later hb) hlt
        have hc0:wr.cell? ⟨b,off+k,none⟩=some (.slice r.at_ r.runs.length r.cap):=by
         have:=hc 0 _ rfl
         simpa using this
        have rH:(rows.map Row.runs)[k]? =some r.runs:=by rw [List.getElem?_map,hx];rfl
        have HST:=h_ (nw (rows.map Row.runs) k r.runs rH)
        have C2:=h_ (nx (rows.map Row.runs) k r.runs rH)
        have jm:=h_ hp
        have fW:=hb.alloc hb.size (.cells #[.slice r.at_ r.runs.length r.cap] 75)
        have lN:=h_ (js.out r (SC hx) _ fW (Row.keeps _ _ _ ((Ss _ _).alloc (St _) _) hrl))
        have oQ:=h_ fW
        have hse:=hb.size
        obtain⟨ra,rc,rr⟩:=r
        simp only [Row.enc] at lN hc0 HST C2 oQ
        clear hp hb hx hc hrl rH fW
        generalize fT rr=E at *
        go_wp2_with fail
        refine lN.out.mono ?_
        rintro e w1 ⟨rfl,hb1⟩
        have hbe:=oQ.out.trans (hb1.mono (by simp;omega))
        clear hb1 oQ lN
        by_cases h0:E=0
        · subst h0
          have hp2:=(C2.out (by first|rfl|trivial)).symm.trans jm.out
          clear HST C2 jm
          go_wp2_with fail
          go_roundw
          case rel=>exact⟨k+1,by omega,by go_num,hp2,hbe⟩
          case measure=>simp [intOf];omega
        · have hne:(E != 0)=true:=by simpa using h0
          have HF:=h_ (HQ.out E (jm.out.symm.trans (HST.out h0)) w1 hbe)
          clear HST C2 jm h0 HQ
          go_wp2_with fail
          go_ret
          exact HF.out
      · obtain rfl:k=rows.length:=by omega
        rw [List.drop_of_length_le (by simp)] at hp
        have HF:=h_ (HQ.out 0 (hp.symm.trans rfl) wr hb)
        clear hp hb HQ
        go_wp2_with fail
        go_ret
        exact HF.out
theorem CO (w:Sj)(x:Array Sk)(t:TypeId):(w.alloc (.cells x t)).heap[w.heap.size]? =some (.cells x t (0,0)):=Sm _ _
theorem wE (t:ByteArray):t.toList.isEmpty=decide (t.size=0):=by
 rw [←jK t]
 cases t.toList<;>simp
def j9 (name:ByteArray)(x:Reg):Bool:=x.name.toList==name.toList
instance:Inhabited Reg:=⟨gn⟩
theorem mA (k:ByteArray):∀ (xs:List Reg)(i:Nat),(bV (j9 k) xs i=-1∧eZ xs k=none)∨∃ (j:Nat)(x:Reg),bV (j9 k) xs i=((i+j:Nat):Int)∧xs[j]? =some x∧eZ xs k=some x
 | [],i=>.inl ⟨rfl,rfl⟩
 | x::l,i=>by
   have hr:j9 k x=eD k x:=rfl
   cases h:eD k x with
   | true =>
     have h1:j9 k x=true:=hr.trans h
     refine .inr ⟨0,x,?_,rfl,?_⟩
     · simp only [bV,h1,if_true,Sx]
     · unfold eZ
       rw [SF,h]
   | false =>
     have h1:j9 k x=false:=hr.trans h
     have e1:bV (j9 k) (x::l) i=bV (j9 k) l (i+1):=by simp [bV,h1]
     have e2:eZ (x::l) k=eZ l k:=by
      unfold eZ
      rw [SF,h]
     rw [e1,e2]
     rcases mA k l (i+1) with h|⟨j,y,h3,h4,h5⟩
     · exact .inl h
     · exact .inr ⟨j+1,y,by rw [h3];congr 1;omega,by simpa using h4,h5⟩
theorem v_ (xs:List Reg)(k:ByteArray):(posOf (j9 k) xs=-1∧eZ xs k=none)∨∃ (j:Nat)(x:Reg),posOf (j9 k) xs=(j:Int)∧xs[j]? =some x∧eZ xs k=some x:=by
 have h:=mA k xs 0
 simp only [Sv] at h
 exact h
theorem uR (x:Reg)(g:Nat)(nm:ByteArray)(w:Sj)(hg:w.cell? ⟨g,0,none⟩=some (.string nm))(hl:g<w.heap.size) :
 Sl Tryz.prog 143 #[.agg x.enc.toArray,.pointer (some ⟨g,0,none⟩)] w fun e w'=>e=.returned (.bool (j9 nm x))∧Sr w.heap.size w w':=by
 obtain⟨rn,rt,rh,rl,rwd,ra,rb⟩:=x
 simp only [Reg.enc,j9]
 have hg2:∀ o,(w.alloc o).cell? ⟨g,0,none⟩=some (.string nm):=fun o=>(Sy _ _ _ (by simpa using hl)).trans hg
 go_enter Tryz.func143,Tryz.ntmps143
 go_wp2_with fail
 go_ret
 exact⟨rfl,(Ss _ _).alloc (St _) _⟩
theorem uZ (a:Option Addr)(cap:Nat)(v:Sk)(w:Sj):Sl Tryz.prog 142 #[.slice a 0 cap,v] w fun e w'=>e=.returned (.int .i64 (-1))∧w=w':=by
 go_enter Tryz.func142,Tryz.ntmps142
 go_wp2_with fail
 refine wp_loop_rounds 1 ?_
 rw [rounds_succ]
 go_wp2_with fail
 go_ret
 exact⟨rfl,rfl⟩
theorem sG (a:Option Addr)(cap:Nat)(xs:List Reg)(g:Nat)(id:ByteArray)(w:Sj)(hr:ah 7 Reg.enc Flat w a xs)(hl:xs.length≤4000000)(hg:w.cell? ⟨g,0,none⟩=some (.string id))(hgl:g<w.heap.size) :
 Sl Tryz.prog 142 #[.slice a xs.length cap,.func (.func 143) #[] #[.pointer (some ⟨g,0,none⟩)]] w fun e w'=>e=.returned (.int .i64 (posOf (j9 id) xs))∧Sr w.heap.size w w':=by
 rcases hr with rfl|⟨b,off,rfl,hb,hc⟩
 · exact(uZ a cap _ w).mono fun e w' ⟨he,hw⟩=>⟨he,hw▸Ss _ _⟩
 · have h:=Tryz.slices_IndexFunc_f142 7 (fun w=>by kernel_rfl) (fun w=>by kernel_rfl) Reg.enc (fun _=>rfl) (j9 id) 143 #[.pointer (some ⟨g,0,none⟩)] (fun args w=>by kernel_rfl) b off xs.length cap xs w
    (fun W x hW=>(uR x g id W ((hW.cell (p:=⟨g,0,none⟩) hgl).trans hg) (Su hgl hW.size)).mono fun e w' ⟨he,hw⟩=>⟨he,hW.trans (hw.mono hW.size)⟩)
    (St _) (by omega) hb (fun j hj i v hv=>(hc j _ (jR xs j hj)).1 i v hv)
   rw [SD,mH] at h
   exact h
theorem qj (d:Doc)(id:ByteArray)(w:Sj)(hr:ah 7 Reg.enc Flat w d.ra d.rG)(hl:d.rG.length≤4000000) :
 Sl Tryz.prog 96 #[.agg d.enc.toArray,.string id] w fun e w'=>e=.returned (.int .i64 (posOf (j9 id) d.rG))∧Sr w.heap.size w w':=by
 have HC:=h_ (sG d.ra d.rc d.rG (w.heap.size+1) id ((w.alloc (.cells d.enc.toArray 27)).alloc (.cells #[.string id] 9)) (ah.keeps Flat.keeps _ _ _ _ (((Ss _ _).alloc (St _) _).alloc (by simp) _) hr) hl (bB w d.enc.toArray #[.string id] 27 9 0 _ rfl _ (Ss _ _)) (by simp))
 obtain⟨title,lA,rate,drop,last,ra,rc,rG,ea,ec,eV,ca,cc,cM⟩:=d
 simp only [Doc.enc] at HC ⊢
 go_enter Tryz.func96,Tryz.ntmps96
 go_wp2_with fail
 refine HC.out.mono ?_
 rintro e w1 ⟨rfl,hb⟩
 have hb':=dU (hb.mono (by simp))
 go_wp2_with fail
 go_ret
 exact⟨rfl,hb'⟩
def uU (name:ByteArray)(y:Ev):Bool:=y.region.toList==name.toList
theorem uT (y:Ev)(g:Nat)(nm:ByteArray)(w:Sj)(hg:w.cell? ⟨g,0,none⟩=some (.string nm))(hl:g<w.heap.size) :
 Sl Tryz.prog 99 #[.agg y.enc.toArray,.pointer (some ⟨g,0,none⟩)] w fun e w'=>e=.returned (.bool (uU nm y))∧Sr w.heap.size w w':=by
 obtain⟨yid,yin,yout,yre,yki,ysp,yat,ycap,yrows⟩:=y
 simp only [Ev.enc,uU]
 have hg2:∀ o,(w.alloc o).cell? ⟨g,0,none⟩=some (.string nm):=fun o=>(Sy _ _ _ (by simpa using hl)).trans hg
 go_enter Tryz.func99,Tryz.ntmps99
 go_wp2_with fail
 go_ret
 exact⟨rfl,(Ss _ _).alloc (St _) _⟩
theorem u9 (a:Option Addr)(cap:Nat)(v:Sk)(w:Sj):Sl Tryz.prog 127 #[.slice a 0 cap,v] w fun e w'=>e=.returned (.int .i64 (-1))∧w=w':=by
 go_enter Tryz.func127,Tryz.ntmps127
 go_wp2_with fail
 refine wp_loop_rounds 1 ?_
 rw [rounds_succ]
 go_wp2_with fail
 go_ret
 exact⟨rfl,rfl⟩
theorem yg (a:Option Addr)(cap:Nat)(v:Sk)(w:Sj):Sl Tryz.prog 98 #[.slice a 0 cap,v] w fun e w'=>e=.returned (.bool false)∧w=w':=by
 have h:=u9 a cap v w
 go_enter Tryz.func98,Tryz.ntmps98
 go_wp2_with fail
 refine h.mono ?_
 rintro e w_ ⟨rfl,rfl⟩
 go_wp2_with fail
 go_ret
 exact⟨rfl,rfl⟩
theorem sY (a:Option Addr)(cap:Nat)(xs:List Ev)(g:Nat)(nm:ByteArray)(w:Sj)(hr:dy w a xs)(hl:xs.length≤4000000)(hg:w.cell? ⟨g,0,none⟩=some (.string nm))(hgl:g<w.heap.size) :
 Sl Tryz.prog 98 #[.slice a xs.length cap,.func (.func 99) #[] #[.pointer (some ⟨g,0,none⟩)]] w fun e w'=>e=.returned (.bool (xs.any (uU nm)))∧Sr w.heap.size w w':=by
 rcases hr with rfl|⟨b,off,rfl,hb,hc⟩
 · exact(yg a cap _ w).mono fun e w' ⟨he,hw⟩=>⟨he,hw▸Ss _ _⟩
 · have h:=Tryz.slices_ContainsFunc_f98 7 (fun w=>by kernel_rfl) (fun w=>by kernel_rfl) Ev.enc (fun _=>rfl) (uU nm) 99 #[.pointer (some ⟨g,0,none⟩)] (fun args w=>by kernel_rfl) b off xs.length cap xs w
    (fun W x hW=>(uT x g nm W ((hW.cell (p:=⟨g,0,none⟩) hgl).trans hg) (Su hgl hW.size)).mono fun e w' ⟨he,hw⟩=>⟨he,hW.trans (hw.mono hW.size)⟩)
    (St _) (by omega) hb (fun j hj i v hv=>(hc j _ (jR xs j hj)).1 i v hv)
   rw [SD] at h
   exact h
end Go.Proofs.YtjebaagkomejaaaGreatDoor
