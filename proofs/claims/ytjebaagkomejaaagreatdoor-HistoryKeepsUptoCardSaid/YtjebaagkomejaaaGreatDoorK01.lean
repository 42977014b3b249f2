/- The contract of lines.Name: what it returns for any string. The contracts of charset.place and charset.Index: what they return for any string and character. -/
import Derived.WalkLawsBesides
import Derived.WalkSpells
import Derived.Lib.Hide
import Derived.Test.YtjebaagkomejaaaGreatDoorProg
import Derived.Deep.WholeRow
import Derived.Shelf.SlSortCmp.KitK
set_option linter.unusedVariables false
set_option linter.unusedSimpArgs false
set_option maxRecDepth 100000
set_option maxHeartbeats 12800000
open Go.Lib renaming hid→h_
open Go renaming World→Sj,sizeOf→Sk,Calls→Sl,Value→Sm,wpList_store_row→Sn,heap_alloc_last→Sp
open Go.Utf8 renaming decode→Sq
open Nat renaming le_refl→Sr
open Go.World renaming size_alloc→Ss
open Go.Sort renaming permIn_trans→St,permIn_mono→Su
open Go.IntKind renaming i64→Sv,wrap_i64→Sw,u64→Sx
namespace Go.Proofs.YtjebaagkomejaaaGreatDoor
open Go.RowKit
def fp (c:Nat):Bool:=decide (65≤c∧c≤90)||decide (48≤c∧c≤57)||decide (c=95)||decide (c=45)
theorem Gl (c:Nat)(h:(65≤c∧c≤90)∨(48≤c∧c≤57)∨c=95∨c=45):fp c=true:=by
 simp only [fp,Bool.or_eq_true,decide_eq_true_eq];omega
theorem JS (c:Nat)(h:¬ ((65≤c∧c≤90)∨(48≤c∧c≤57)∨c=95∨c=45)):fp c=false:=by
 simp only [fp,Bool.or_eq_false_iff,decide_eq_false_iff_not];omega
def da (s:ByteArray):Bool:=decide (1≤s.size)&&decide (s.size≤16)&&decide (65≤(s.data.toList.headD 0).toNat)&&decide ((s.data.toList.headD 0).toNat≤90)&&s.data.toList.all (fun c=>fp c.toNat)
theorem kc (s:ByteArray)(h:0<s.size):s.data.toList.headD 0=s[0]:=by
 have hl:0<s.data.toList.length:=by simpa using h
 cases hs:s.data.toList with
 | nil=>rw [hs] at hl;simp at hl
 | cons c l =>
   have e:s[0]=s.data.toList[0]:=by rfl
   rw [e]
   simp [hs]
def okTo (s:ByteArray)(k:Nat):Prop:=(s.data.toList.take k).all (fun c=>fp c.toNat)=true
theorem zU (s:ByteArray):okTo s 0:=by simp [okTo]
theorem zV (s:ByteArray)(k:Nat)(h:k<s.size)(ho:okTo s k)(hb:fp s[k].toNat=true):okTo s (k+1):=by
 have hl:k<s.data.toList.length:=by simpa using h
 unfold okTo at *
 rw [List.take_succ_eq_append_getElem hl,List.all_append,ho]
 have e:s.data.toList[k]=s[k]:=rfl
 simp [e,hb]
theorem B4 (s:ByteArray)(h1:1≤s.size)(h2:s.size≤16)(h3:65≤s[0].toNat)(h4:s[0].toNat≤90)(ho:okTo s s.size):da s=true:=by
 unfold okTo at ho
 rw [List.take_of_length_le (by simp)] at ho
 simp only [da,kc s h1,h1,h2,h3,h4,ho,decide_true,Bool.and_true]
theorem Ec (s:ByteArray)(k:Nat)(h:k<s.size)(hb:fp s[k].toNat=false):da s=false:=by
 have hm:s[k]∈s.data.toList:=List.getElem_mem (l:=s.data.toList) (by simpa using h)
 have:s.data.toList.all (fun c=>fp c.toNat)=false:=by
  rw [List.all_eq_false]
  exact⟨s[k],hm,by simp [hb]⟩
 simp [da,this]
theorem eG (s:ByteArray)(w:Sj)(hs:s.size≤4000000) :
 Sl Tryz.prog 78 #[.string s] w fun e w'=>e=.returned (.bool (da s))∧w=w':=by
 by_cases h1:s.size<1
 · have hn:da s=false:=by simp [da,show ¬ 1≤s.size by omega]
   have HN:=h_ hn;clear hn
   go_enter Tryz.func78,Tryz.ntmps78
   go_wp2
   go_ret
   rw [HN.out];exact⟨rfl,rfl⟩
 by_cases h2:16<s.size
 · have hn:da s=false:=by simp [da,show ¬ s.size≤16 by omega]
   have HN:=h_ hn;clear hn
   go_enter Tryz.func78,Tryz.ntmps78
   go_wp2
   go_ret
   rw [HN.out];exact⟨rfl,rfl⟩
 have hp:0<s.size:=by omega
 by_cases h3:s[0].toNat<65
 · have hn:da s=false:=by simp only [da,kc s hp,show ¬ 65≤s[0].toNat by omega,decide_false,Bool.and_false,Bool.false_and]
   have HN:=h_ hn;clear hn
   go_enter Tryz.func78,Tryz.ntmps78
   go_wp2
   go_ret
   rw [HN.out];exact⟨rfl,rfl⟩
 by_cases h4:90<s[0].toNat
 · have hn:da s=false:=by simp only [da,kc s hp,show ¬ s[0].toNat≤90 by omega,decide_false,Bool.and_false,Bool.false_and]
   have HN:=h_ hn;clear hn
   go_enter Tryz.func78,Tryz.ntmps78
   go_wp2
   go_ret
   rw [HN.out];exact⟨rfl,rfl⟩
 have HY:=h_ (B4 s (by omega) (by omega) (by omega) (by omega))
 go_enter Tryz.func78,Tryz.ntmps78
 go_wp2
 go_loop [25] (fun i=>∃ k:Nat,k≤s.size∧i=.int .i64 k∧okTo s k) (fun i=>s.size-(intOf i).toNat)
 case atStart=>exact⟨0,by omega,rfl,zU s⟩
 case round =>
  obtain⟨k,hk,rfl,hok⟩:=hrel
  by_cases hlt:k<s.size
  · have hN:=h_ (Ec s k hlt)
    have hS:=h_ (zV s k hlt hok)
    have hb:=s[k].toNat_lt
    go_wp2
    all_goals first
     | (go_round
        case rel=>exact⟨k+1,by omega,by go_num,hS.out (Gl _ (by first|omega|(simp only [bne_eq_false_iff_eq] at *;omega)))⟩
        case measure=>simp [intOf];omega)
     | (go_ret
        rw [hN.out (JS _ (by first|omega|(simp only [bne_iff_ne,ne_eq] at *;omega)))]
        exact⟨rfl,rfl⟩)
  · obtain rfl:k=s.size:=by omega
    go_wp2
    go_ret
    rw [HY.out hok];exact⟨rfl,rfl⟩
def c_ (s:ByteArray):Nat→Nat→List Nat
 | 0,_=>[]
 | b+1,pos=>if pos<s.size then (Sq s pos).1::c_ s b (pos+(Sq s pos).2) else []
def runes (s:ByteArray):List Nat:=c_ s s.size 0
theorem gK (s:ByteArray)(b pos:Nat)(h:¬ pos<s.size):c_ s b pos=[]:=by
 cases b<;>simp [c_,h]
theorem ia (s:ByteArray)(b pos:Nat)(h:pos<s.size)(hb:s.size≤pos+b):∃ c,b=c+1∧c_ s b pos=(Sq s pos).1::c_ s c (pos+(Sq s pos).2):=by
 cases b with
 | zero=>omega
 | succ c=>exact⟨c,rfl,by simp [c_,h]⟩
theorem width_pos (s:ByteArray)(pos:Nat)(h:pos<s.size):1≤(Sq s pos).2:=by
 by_cases ha:(s[pos]'h).toNat<128
 · rw [decode_ascii s pos h ha]
   exact Sr _
 · exact(decode_high s pos h (by omega)).2
def iD:List Nat→Int→Int→Int
 | [],_,_=>-1
 | x::l,r,n=>if (x:Int)=r then n else iD l r (n+1)
theorem xJ (l:List Nat)(x:Nat)(r n:Int)(h:(x:Int)=r):iD (x::l) r n=n:=by simp [iD,h]
theorem zR (l:List Nat)(x:Nat)(r n:Int)(h:¬ (x:Int)=r):iD (x::l) r n=iD l r (n+1):=by simp [iD,h]
theorem uI (s:ByteArray)(r:Int)(w:Sj)(hs:s.size≤4000000) :
 Sl Tryz.prog 193 #[.string s,.int .i32 r] w fun e w'=>e=.returned (.int .i64 (iD (runes s) r 0))∧Below w.heap.size w w':=by
 generalize hG:iD (runes s) r 0=G
 have hG0:iD (c_ s s.size 0) r 0=G:=hG
 have H0:=h_ hG0
 clear hG hG0
 go_enter Tryz.func193,Tryz.ntmps193
 go_wp2
 go_loopw [5] (fun n w'=>∃ (pos b:Nat) (k:Nat),w'=w.iter s pos∧n=.int .i64 k∧iD (c_ s b pos) r k=G∧s.size≤pos+b∧k≤pos∧k≤s.size) (fun _ w'=>s.size-w'.iterPos w.heap.size)
 case atStart=>exact⟨0,s.size,0,rfl,rfl,H0.out,by omega,by omega,by omega⟩
 case round =>
  obtain⟨pos,b,k,rfl,rfl,hp,hb,hk,hk2⟩:=hrel
  by_cases hlt:pos<s.size
  · obtain⟨c,rfl,hn⟩:=ia s b pos hlt hb
    have hwd:=width_pos s pos hlt
    have hnx:∀ ty,(Instr.next (.pointer (some ⟨w.heap.size,0,none⟩)) true ty).run Tryz.prog (w.iter s pos)=_:=fun ty=>run_next_any w s pos ty hlt
    rw [hn] at hp
    by_cases he:((Sq s pos).1:Int)=r
    · rw [xJ _ _ _ _ he] at hp
      have hbe:(((Sq s pos).1:Int)==r)=true:=by simpa using he
      have HP:=h_ hp
      clear hp hn he H0
      go_wp2
      go_ret
      exact⟨by rw [←HP.out];rfl,(Below.refl _ _).alloc (Sr _) _⟩
    · rw [zR _ _ _ _ he] at hp
      have hbe:(((Sq s pos).1:Int)==r)=false:=by simpa using he
      have HP:=h_ hp
      clear hp hn he H0
      go_wp2
      go_roundw
      case rel=>exact⟨pos+(Sq s pos).2,c,k+1,rfl,by go_num,HP.out,by omega,by omega,by omega⟩
      case measure=>simp;omega
  · have hnx:∀ ty,(Instr.next (.pointer (some ⟨w.heap.size,0,none⟩)) true ty).run Tryz.prog (w.iter s pos)=_:=fun ty=>run_next_end w s pos ty hlt
    rw [gK s b pos hlt] at hp
    have HP:=h_ hp
    clear hp H0
    go_wp2
    go_ret
    exact⟨by rw [←HP.out];rfl,(Below.refl _ _).alloc (Sr _) _⟩
end Go.Proofs.YtjebaagkomejaaaGreatDoor
namespace Go.Proofs.YtjebaagkomejaaaGreatDoor
open Go.RowKit
def fG (r:Int):Int:=if r=1 then 5005 else if r=2 then 5000 else if r=3 then 4800 else if r=4 then 4004 else if r=5 then 4000 else if r=6 then 2400 else if r=7 then 2002 else 0
def eM (r:Int):Bool:=decide (r=4)||decide (r=7)
def du:Array Sm:=#[.string ⟨#[]⟩,.int .i64 0,.int .i64 0,.bool false,.string ⟨#[50,51,46,57,55,54]⟩,.int .i64 5005,.int .i64 24,.bool false,.string ⟨#[50,52]⟩,.int .i64 5000,.int .i64 24,.bool false,.string ⟨#[50,53]⟩,.int .i64 4800,.int .i64 25,.bool false,.string ⟨#[50,57,46,57,55]⟩,.int .i64 4004,.int .i64 30,.bool true,.string ⟨#[51,48]⟩,.int .i64 4000,.int .i64 30,.bool false,.string ⟨#[53,48]⟩,.int .i64 2400,.int .i64 50,.bool false,.string ⟨#[53,57,46,57,52]⟩,.int .i64 2002,.int .i64 60,.bool true]
theorem mE:du.all (·.oneCell')=true:=by decide +kernel
theorem Tryz.size189:(Tryz.prog.info? 249).map (·.size)=some du.size:=by kernel_rfl
theorem l9 (w:Sj)(o:Obj)(i:Nat)(v:Sm)(h:du[i]? =some v):((w.alloc o).alloc (.cells du 249)).cell? ⟨w.heap.size+1,i,none⟩=some v:=by
 have:=cell_of_row ((w.alloc o).alloc (.cells du 249)) (w.heap.size+1) i du 249 (0,0) (by
  have:=Sp (w.alloc o) (.cells du 249)
  rwa [Ss] at this)
 rw [this,h]
theorem oX (w:Sj)(o:Obj)(c c':Array Sm)(t:TypeId):((w.alloc o).alloc (.cells c t)).setRow (w.heap.size+1) c'=(w.alloc o).alloc (.cells c' t):=by
 have:=Sj.setRow_alloc_new (w.alloc o) c c' t
 rwa [Ss] at this
theorem mf (w:Sj)(o o':Obj):((w.alloc o).alloc o').heap[w.heap.size+1]? =some o':=by
 have:=Sp (w.alloc o) o'
 rwa [Ss] at this
def Bb (r:Int)(w:Sj)(e:Ending)(w':Sj):Prop:=∃ a b,e=.returned (.agg #[.string a,.int .i64 (fG r),.int .i64 b,.bool (eM r)])∧Below w.heap.size w w'
theorem Gk (r:Int)(w:Sj)(h0:8≤r)(h1:r≤255) :
 Sl Tryz.prog 218 #[.int .u8 r] w (Bb r w):=by
 have ht:fG r=0:=by unfold fG;repeat rw [if_neg (by omega)]
 have hd:eM r=false:=by simp [eM];omega
 have HT:=h_ ht;have HD:=h_ hd
 clear ht hd
 go_enter Tryz.func218,Tryz.ntmps218
 go_wp2_with (with_reducible refine Sn rfl 249 (.tmp 3) (.tmp 12) rfl (w.heap.size+1) du ?hx ?hy 249 ?old ?hg Tryz.size189 ?ho mE ?_;rotate_right;rw [oX])
 case hx=>rfl
 case hy=>rfl
 case hg=>exact mf _ _ _
 case ho=>rfl
 exact bodyPost_ret (v:=.agg #[.string ⟨#[]⟩,.int .i64 0,.int .i64 0,.bool false]) (by simp [results,Tryz.results218,go_sem]) rfl
  ⟨⟨#[]⟩,0,by rw [HT.out,HD.out],((Below.refl _ _).alloc (Sr _) _).alloc (by simp) _⟩
theorem JR (i:Nat)(w:Sj)(h1:i<8)(a:ByteArray)(b:Int)
 (c0:du[i*4]? =some (.string a)) (c1:du[i*4+1]? =some (.int .i64 (fG i))) (c2:du[i*4+2]? =some (.int .i64 b)) (c3:du[i*4+3]? =some (.bool (eM i))) :
 Sl Tryz.prog 218 #[.int .u8 i] w (Bb i w):=by
 have t0:=fun o=>l9 w o _ _ c0
 have t1:=fun o=>l9 w o _ _ c1
 have t2:=fun o=>l9 w o _ _ c2
 have t3:=fun o=>l9 w o _ _ c3
 clear c0 c1 c2 c3
 have h1':(i:Int)<8:=by omega
 go_enter Tryz.func218,Tryz.ntmps218
 go_wp2_with (with_reducible refine Sn rfl 249 (.tmp 3) (.tmp 12) rfl (w.heap.size+1) du ?hx ?hy 249 ?old ?hg Tryz.size189 ?ho mE ?_;rotate_right;rw [oX])
 case hx=>rfl
 case hy=>rfl
 case hg=>exact mf _ _ _
 case ho=>rfl
 exact bodyPost_ret (v:=.agg #[.string a,.int .i64 (fG i),.int .i64 b,.bool (eM i)]) (by simp [results,Tryz.results218,go_sem]) rfl
  ⟨a,b,rfl,((Below.refl _ _).alloc (Sr _) _).alloc (by simp) _⟩
theorem wm (r:Int)(w:Sj)(h0:0≤r)(h1:r≤255):Sl Tryz.prog 218 #[.int .u8 r] w (Bb r w):=by
 by_cases h8:8≤r
 · exact Gk r w h8 h1
 · have h:∀ i:Fin 8,∃ a b,du[i.val*4]? =some (.string a)∧du[i.val*4+1]? =some (.int .i64 (fG i.val))∧du[i.val*4+2]? =some (.int .i64 b)∧du[i.val*4+3]? =some (.bool (eM i.val)):=by
    intro i
    match i with
    | 0=>exact⟨_,_,rfl,rfl,rfl,rfl⟩
    | 1=>exact⟨_,_,rfl,rfl,rfl,rfl⟩
    | 2=>exact⟨_,_,rfl,rfl,rfl,rfl⟩
    | 3=>exact⟨_,_,rfl,rfl,rfl,rfl⟩
    | 4=>exact⟨_,_,rfl,rfl,rfl,rfl⟩
    | 5=>exact⟨_,_,rfl,rfl,rfl,rfl⟩
    | 6=>exact⟨_,_,rfl,rfl,rfl,rfl⟩
    | 7=>exact⟨_,_,rfl,rfl,rfl,rfl⟩
   obtain⟨a,b,c0,c1,c2,c3⟩:=h ⟨r.toNat,by omega⟩
   have:=JR r.toNat w (by omega) a b c0 c1 c2 c3
   rwa [Int.toNat_of_nonneg h0] at this
theorem yy (a b c d:Sm)(w:Sj):(Instr.field 227 (.agg #[a,b,c,d]) 1).run Tryz.prog w=.ok b w:=by kernel_rfl
theorem yx (a b c d:Sm)(w:Sj):(Instr.field 227 (.agg #[a,b,c,d]) 3).run Tryz.prog w=.ok d w:=by kernel_rfl
attribute [local go_sem] yy yx
def iL (r:Int):Bool:=decide (0<fG r)
theorem fF (r:Int)(w:Sj)(h0:0≤r)(h1:r≤255) :
 Sl Tryz.prog 174 #[.int .u8 r] w fun e w'=>e=.returned (.bool (iL r))∧Below w.heap.size w w':=by
 unfold iL
 go_enter Tryz.func174,Tryz.ntmps174
 go_wp2_with fail
 refine(wm r _ h0 h1).mono ?_
 rintro e w1 ⟨a,b,rfl,hb⟩
 go_wp2_with fail
 go_ret
 exact⟨rfl,hb⟩
theorem oe (r:Int)(w:Sj)(h0:0≤r)(h1:r≤255) :
 Sl Tryz.prog 175 #[.int .u8 r] w fun e w'=>e=.returned (.bool (eM r))∧Below w.heap.size w w':=by
 go_enter Tryz.func175,Tryz.ntmps175
 go_wp2_with fail
 refine(wm r _ h0 h1).mono ?_
 rintro e w1 ⟨a,b,rfl,hb⟩
 go_wp2_with fail
 go_ret
 exact⟨rfl,hb⟩
def qh (r:Int)(drop:Bool):Int:=if iL r&&(!drop||eM r) then 0 else 13
theorem xG (r:Int)(drop:Bool)(w:Sj)(h0:0≤r)(h1:r≤255) :
 Sl Tryz.prog 112 #[.int .u8 r,.bool drop] w fun e w'=>e=.returned (.int .i64 (qh r drop))∧Below w.heap.size w w':=by
 have hE:qh r drop=if iL r&&(!drop||eM r) then 0 else 13:=rfl
 cases hv:iL r
 · rw [hv] at hE
   have HE:=h_ hE
   clear hE
   go_enter Tryz.func112,Tryz.ntmps112
   go_wp2_with (go_at_call 174;refine(fF _ _ h0 h1).mono ?_;rintro e w1 ⟨rfl,hb⟩)
   go_ret
   rw [HE.out]
   exact⟨rfl,hb⟩
 · cases drop
   · rw [hv] at hE
     have HE:=h_ hE
     clear hE
     go_enter Tryz.func112,Tryz.ntmps112
     go_wp2_with (go_at_call 174;refine(fF _ _ h0 h1).mono ?_;rintro e w1 ⟨rfl,hb⟩)
     go_ret
     rw [HE.out]
     exact⟨rfl,hb⟩
   · cases hd:eM r
     all_goals
      rw [hv,hd] at hE
      have HE:=h_ hE
      clear hE
      go_enter Tryz.func112,Tryz.ntmps112
      go_wp2_with (first
       | (go_at_call 174;refine(fF _ _ h0 h1).mono ?_;rintro e w1 ⟨rfl,hb⟩)
       | (go_at_call 175;refine(oe _ _ h0 h1).mono ?_;rintro e w2 ⟨rfl,hb2⟩))
      go_ret
      rw [HE.out]
      exact⟨rfl,hb.trans (hb2.mono hb.size)⟩
end Go.Proofs.YtjebaagkomejaaaGreatDoor
namespace Go.Proofs.YtjebaagkomejaaaGreatDoor
open Go.Sort
variable {α:Type} [Inhabited α]
def swIx (x y n i:Nat):Nat:=if x≤i∧i<x+n then i-x+y else if y≤i∧i<y+n then i-y+x else i
def cD (a m b i:Nat):Nat:=if a≤i∧i<a+(b-m) then i+(m-a) else if a+(b-m)≤i∧i<b then i-(b-m) else i
theorem DQ (x y i:Nat):swIx x y 0 i=i:=by
 unfold swIx
 rw [if_neg (by omega),if_neg (by omega)]
theorem DR (d dk:Array α)(x y n k:Nat)(hxy:x+n≤y)(hk:k<n)(hy:y+n≤d.size)(hs:dk.size=d.size)(h:∀ i,dk[i]! =d[swIx x y k i]!)(i:Nat):(swp dk (x+k) (y+k))[i]! =d[swIx x y (k+1) i]!:=by
 rw [swp_get dk (show x+k<dk.size by omega) (show y+k<dk.size by omega),h,h,h]
 by_cases h1:i=y+k
 · rw [if_pos h1]
   congr 1
   unfold swIx
   rw [if_neg (by omega),if_neg (by omega),if_neg (by omega),if_pos (by omega)]
   omega
 · rw [if_neg h1]
   by_cases h2:i=x+k
   · rw [if_pos h2]
     congr 1
     unfold swIx
     rw [if_neg (by omega),if_neg (by omega),if_pos (by omega)]
     omega
   · rw [if_neg h2]
     congr 1
     unfold swIx
     by_cases h3:x≤i∧i<x+k
     · rw [if_pos h3,if_pos (by omega)]
     · rw [if_neg h3,if_neg (show ¬ (x≤i∧i<x+(k+1)) by omega)]
       by_cases h4:y≤i∧i<y+k
       · rw [if_pos h4,if_pos (by omega)]
       · rw [if_neg h4,if_neg (by omega)]
theorem BN (m i j t:Nat)(hj:0<j)(hij:j<i)(him:i≤m):swIx (m-i) m j (cD (m-i+j) m (m+j) t)=cD (m-i) m (m+j) t:=by
 unfold cD swIx
 repeat' split
 all_goals omega
theorem zK (m i j t:Nat)(hi:0<i)(hij:i<j)(him:i≤m):swIx (m-i) (m+j-i) i (cD (m-i) m (m+j-i) t)=cD (m-i) m (m+j) t:=by
 unfold cD swIx
 repeat' split
 all_goals omega
theorem BM (m i t:Nat)(him:i≤m):swIx (m-i) m i t=cD (m-i) m (m+i) t:=by
 unfold cD swIx
 repeat' split
 all_goals omega
theorem sh (a m b i:Nat)(h:a=m∨m=b)(h1:a≤m)(h2:m≤b):cD a m b i=i:=by
 unfold cD
 repeat' split
 all_goals omega
theorem DO (d dk:Array α)(a k:Nat)(hak:a≤k)(hk:k+1<d.size)(hs:dk.size=d.size)(h:∀ i,dk[i]! =d[cD a (a+1) (k+1) i]!)(i:Nat):(swp dk k (k+1))[i]! =d[cD a (a+1) (k+2) i]!:=by
 rw [swp_get dk (show k<dk.size by omega) (show k+1<dk.size by omega),h,h,h]
 by_cases h1:i=k+1
 · rw [if_pos h1];congr 1;unfold cD
   repeat' split
   all_goals omega
 · rw [if_neg h1]
   by_cases h2:i=k
   · rw [if_pos h2];congr 1;unfold cD
     repeat' split
     all_goals omega
   · rw [if_neg h2];congr 1;unfold cD
     repeat' split
     all_goals omega
theorem A6 (d dk:Array α)(m k:Nat)(KD:k+1≤m)(hk:m<d.size)(hs:dk.size=d.size)(h:∀ i,dk[i]! =d[cD (k+1) m (m+1) i]!)(i:Nat):(swp dk (k+1) k)[i]! =d[cD k m (m+1) i]!:=by
 rw [swp_get dk (show k+1<dk.size by omega) (show k<dk.size by omega),h,h,h]
 by_cases h1:i=k
 · rw [if_pos h1];congr 1;unfold cD
   repeat' split
   all_goals omega
 · rw [if_neg h1]
   by_cases h2:i=k+1
   · rw [if_pos h2];congr 1;unfold cD
     repeat' split
     all_goals omega
   · rw [if_neg h2];congr 1;unfold cD
     repeat' split
     all_goals omega
variable {lt:α→α→Bool}
theorem SortedIn.part {a b a' b':Nat} {d:Array α} (h:SortedIn lt a b d)(ha:a≤a')(hb:b'≤b):SortedIn lt a' b' d:=fun i j h1 h2 h3=>h i j (by omega) h2 (by omega)
theorem PermIn.out {a b i:Nat} {d d':Array α} (h:PermIn a b d d')(hi:i<a∨b≤i):d'[i]! =d[i]!:=h.2.1 i hi
theorem Gw (hS:SWO lt)(d d':Array α)(a i b:Nat)(hi:a+1≤i)(hib:i≤b)(h:SortedIn lt (a+1) b d)(hlo:∀ t,a+1≤t→t<i→lt d[t]! d[a]! =true)(hhi:∀ t,i≤t→t<b→lt d[t]! d[a]! =false)
 (hd:∀ t,d'[t]! =d[cD a (a+1) i t]!):SortedIn lt a b d':=by
 have e1:∀ t,a≤t→t<i-1→d'[t]! =d[t+1]!:=fun t h1 h2=>by rw [hd];congr 1;unfold cD;rw [if_pos (by omega)];omega
 have e2:d'[i-1]! =d[a]!:=by rw [hd];congr 1;unfold cD;rw [if_neg (by omega),if_pos (by omega)];omega
 have e3:∀ t,i≤t→d'[t]! =d[t]!:=fun t h1=>by rw [hd];congr 1;unfold cD;rw [if_neg (by omega),if_neg (by omega)]
 intro p q hp hpq hq
 by_cases hq1:q<i-1
 · rw [e1 q (by omega) hq1,e1 p hp (by omega)];exact h _ _ (by omega) (by omega) (by omega)
 · by_cases hq2:q=i-1
   · rw [hq2,e2,e1 p hp (by omega)];exact hS.asymmA (hlo _ (by omega) (by omega))
   · rw [e3 q (by omega)]
     by_cases hp1:p<i-1
     · rw [e1 p hp hp1];exact h _ _ (by omega) (by omega) hq
     · by_cases hp2:p=i-1
       · rw [hp2,e2];exact hhi _ (by omega) hq
       · rw [e3 p (by omega)];exact h _ _ (by omega) hpq hq
theorem Cf (hS:SWO lt)(d d':Array α)(a i m:Nat)(hi:a≤i)(him:i≤m)(h:SortedIn lt a m d)(hlo:∀ t,a≤t→t<i→lt d[m]! d[t]! =false)(hhi:∀ t,i≤t→t<m→lt d[m]! d[t]! =true)
 (hd:∀ t,d'[t]! =d[cD i m (m+1) t]!):SortedIn lt a (m+1) d':=by
 have e1:∀ t,t<i→d'[t]! =d[t]!:=fun t h1=>by rw [hd];congr 1;unfold cD;rw [if_neg (by omega),if_neg (by omega)]
 have e2:d'[i]! =d[m]!:=by rw [hd];congr 1;unfold cD;rw [if_pos (by omega)];omega
 have e3:∀ t,i<t→t≤m→d'[t]! =d[t-1]!:=fun t h1 h2=>by rw [hd];congr 1;unfold cD;rw [if_neg (by omega),if_pos (by omega)];omega
 intro p q hp hpq hq
 by_cases hq1:q<i
 · rw [e1 q hq1,e1 p (by omega)];exact h _ _ hp hpq (by omega)
 · by_cases hq2:q=i
   · rw [hq2,e2,e1 p (by omega)];exact hlo _ hp (by omega)
   · rw [e3 q (by omega) (by omega)]
     by_cases hp1:p<i
     · rw [e1 p hp1];exact h _ _ hp (by omega) (by omega)
     · by_cases hp2:p=i
       · rw [hp2,e2];exact hS.asymmA (hhi _ (by omega) (by omega))
       · rw [e3 p (by omega) (by omega)];exact h _ _ (by omega) (by omega) (by omega)
theorem halves (hS:SWO lt)(d d':Array α)(a m b start fin mid:Nat)(h1:a≤start)(h2:start≤m)(h3:m≤fin)(h4:fin≤b)(hmid:start+(fin-m)=mid)(hl:SortedIn lt a m d)(hr:SortedIn lt m b d)
 (hL:∀ t u,a≤t→t<start→fin≤u→u<b→lt d[u]! d[t]! =false) (hR:∀ t u,start≤t→t<m→m≤u→u<fin→lt d[t]! d[u]! =false)
 (hd:∀ t,d'[t]! =d[cD start m fin t]!) :
 SortedIn lt a start d'∧SortedIn lt start mid d'∧SortedIn lt mid fin d'∧SortedIn lt fin b d'∧∀ u v,a≤u→u<mid→mid≤v→v<b→lt d'[v]! d'[u]! =false:=by
 have e1:∀ t,t<start→d'[t]! =d[t]!:=fun t h=>by rw [hd];congr 1;unfold cD;rw [if_neg (by omega),if_neg (by omega)]
 have e2:∀ t,start≤t→t<mid→d'[t]! =d[t+(m-start)]!:=fun t h h'=>by rw [hd];congr 1;unfold cD;rw [if_pos (by omega)]
 have e3:∀ t,mid≤t→t<fin→d'[t]! =d[t-(fin-m)]!:=fun t h h'=>by rw [hd];congr 1;unfold cD;rw [if_neg (by omega),if_pos (by omega)]
 have e4:∀ t,fin≤t→d'[t]! =d[t]!:=fun t h=>by rw [hd];congr 1;unfold cD;rw [if_neg (by omega),if_neg (by omega)]
 refine⟨fun p q hp hpq hq=>?_,fun p q hp hpq hq=>?_,fun p q hp hpq hq=>?_,fun p q hp hpq hq=>?_,fun u v hu hu' hv hv'=>?_⟩
 · rw [e1 q hq,e1 p (by omega)];exact hl _ _ hp hpq (by omega)
 · rw [e2 q (by omega) hq,e2 p hp (by omega)];exact hr _ _ (by omega) (by omega) (by omega)
 · rw [e3 q (by omega) hq,e3 p hp (by omega)];exact hl _ _ (by omega) (by omega) (by omega)
 · rw [e4 q (by omega),e4 p hp];exact hr _ _ (by omega) hpq hq
 · by_cases hu1:u<start
   · rw [e1 u hu1]
     by_cases hv1:v<fin
     · rw [e3 v hv hv1];exact hl _ _ hu (by omega) (by omega)
     · rw [e4 v (by omega)];exact hL _ _ hu hu1 (by omega) hv'
   · rw [e2 u (by omega) hu']
     by_cases hv1:v<fin
     · rw [e3 v hv hv1];exact hR _ _ (by omega) (by omega) (by omega) (by omega)
     · rw [e4 v (by omega)];exact hr _ _ (by omega) (by omega) hv'
theorem JX (d:Array α)(a mid b:Nat)(h1:SortedIn lt a mid d)(h2:SortedIn lt mid b d)(hx:∀ u v,a≤u→u<mid→mid≤v→v<b→lt d[v]! d[u]! =false):SortedIn lt a b d:=by
 intro p q hp hpq hq
 by_cases hq1:q<mid
 · exact h1 _ _ hp hpq hq1
 · by_cases hp1:p<mid
   · exact hx _ _ hp hp1 (by omega) hq
   · exact h2 _ _ (by omega) hpq hq
theorem merged (d1 d2 d3:Array α)(a mid b:Nat)(hm:a≤mid)(hb:mid≤b)(hsz:b≤d1.size)(hx:∀ u v,a≤u→u<mid→mid≤v→v<b→lt d1[v]! d1[u]! =false)
 (p2:PermIn a mid d1 d2) (s2:SortedIn lt a mid d2) (p3:PermIn mid b d2 d3) (s3:SortedIn lt mid b d3):PermIn a b d1 d3∧SortedIn lt a b d3:=by
 have z2:d2.size=d1.size:=p2.1
 refine⟨St _ _ _ a b (Su _ _ a mid a b (Sr _) hb hsz p2) (Su _ _ mid b a b hm (Sr _) (by omega) p3),JX d3 a mid b ?_ s3 ?_⟩
 · intro p q hp hpq hq
   rw [p3.2.1 q (by omega),p3.2.1 p (by omega)]
   exact s2 p q hp hpq hq
 · have hx2:∀ v,mid≤v→v<b→∀ u,a≤u→u<mid→lt d2[v]! d2[u]! =false:=fun v hv hv' u hu hu'=>by
    rw [p2.2.1 v (by omega)]
    exact permIn_all d1 d2 a mid (fun y=>lt d1[v]! y=false) (by omega) p2 (fun i h h'=>hx i v h h' hv hv') u hu hu'
   intro u v hu hu' hv hv'
   rw [p3.2.1 u (by omega)]
   exact permIn_all d2 d3 mid b (fun y=>lt y d2[u]! =false) (by omega) p3 (fun i h h'=>hx2 i h h' u hu hu') v hv hv'
inductive Blk (lt:α→α→Bool) (bs n:Nat) (d:Array α):Nat→Prop where
 | stop (a:Nat):n≤a→Blk lt bs n d a
 | go (a:Nat):SortedIn lt a (min (a+bs) n) d→Blk lt bs n d (a+bs)→Blk lt bs n d a
inductive Pre (lt:α→α→Bool) (bs:Nat) (d:Array α):Nat→Prop where
 | zero:Pre lt bs d 0
 | snoc (a:Nat):Pre lt bs d a→SortedIn lt a (a+bs) d→Pre lt bs d (a+bs)
theorem Blk.congr {bs n a:Nat} {d d':Array α} (h:Blk lt bs n d a)(e:∀ i,a≤i→d'[i]! =d[i]!):Blk lt bs n d' a:=by
 induction h with
 | stop a h=>exact .stop a h
 | go a hs _ ih =>
   refine .go a (fun p q hp hpq hq=>?_) (ih fun i hi=>e i (by omega))
   rw [e q (by omega),e p hp]
   exact hs p q hp hpq hq
theorem Pre.congr {bs a:Nat} {d d':Array α} (h:Pre lt bs d a)(e:∀ i,i<a→d'[i]! =d[i]!):Pre lt bs d' a:=by
 induction h with
 | zero=>exact .zero
 | snoc a _ hs ih =>
   refine .snoc a (ih fun i hi=>e i (by omega)) (fun p q hp hpq hq=>?_)
   rw [e q (by omega),e p (by omega)]
   exact hs p q hp hpq hq
theorem Pre.join {bs n a:Nat} {d:Array α} (h:Pre lt bs d a):Blk lt bs n d a→Blk lt bs n d 0:=by
 induction h with
 | zero=>exact id
 | snoc a _ hs ih=>exact fun hb=>ih (.go a (SortedIn.part hs (Sr _) (by omega)) hb)
theorem Blk.head {bs n a:Nat} {d:Array α} (h:Blk lt bs n d a):SortedIn lt a (min (a+bs) n) d:=by
 cases h with
 | stop _ h=>exact fun p q h1 h2 h3=>by omega
 | go _ hs _=>exact hs
theorem Blk.tail {bs n a:Nat} {d:Array α} (h:Blk lt bs n d a):Blk lt bs n d (a+bs):=by
 cases h with
 | stop _ h=>exact .stop _ (by omega)
 | go _ _ ht=>exact ht
theorem xy (hS:SWO lt)(d:Array α)(a m b mid s0 r0 i fin:Nat)(hs0:a≤s0)(hr0:r0≤m)(hs1:mid+m≤s0+b)(hr1:r0≤mid)(hcase:(s0+b=mid+m∧r0=mid)∨(s0=a∧r0=m))
 (hl:SortedIn lt a m d) (hr:SortedIn lt m b d) (h1:s0≤i) (h2:i≤r0) (h3:i+fin=mid+m) (h4:∀ t,s0≤t→t<i→lt d[mid+m-1-t]! d[t]! =false) (h5:∀ t,i≤t→t<r0→lt d[mid+m-1-t]! d[t]! =true) :
 (∀ t u,a≤t→t<i→fin≤u→u<b→lt d[u]! d[t]! =false)∧(∀ t u,i≤t→t<m→m≤u→u<fin→lt d[t]! d[u]! =false):=by
 have le:∀ p q,a≤p→p≤q→q<m→lt d[q]! d[p]! =false:=fun p q hp hpq hq=>by
  by_cases e:p=q
  · rw [e];exact hS.irrefl _
  · exact hl p q hp (by omega) hq
 have re:∀ p q,m≤p→p≤q→q<b→lt d[q]! d[p]! =false:=fun p q hp hpq hq=>by
  by_cases e:p=q
  · rw [e];exact hS.irrefl _
  · exact hr p q hp (by omega) hq
 refine⟨fun t u ht ht' hu hu'=>?_,fun t u ht ht' hu hu'=>?_⟩
 · by_cases hi:s0<i
   · have:=h4 (i-1) (by omega) (by omega)
     rw [show mid+m-1-(i-1)=fin by omega] at this
     exact hS.ntrans _ _ _ (re fin u (by omega) hu hu') (hS.ntrans _ _ _ this (le t (i-1) ht (by omega) (by omega)))
   · rcases hcase with h|h<;>omega
 · by_cases hi:i<r0
   · have:=h5 i (Sr _) hi
     rw [show mid+m-1-i=fin-1 by omega] at this
     exact hS.ntrans _ _ _ (le i t (by omega) ht ht') (hS.ntrans _ _ _ (hS.asymmA this) (re u (fin-1) hu (by omega) (by omega)))
   · rcases hcase with h|h<;>omega
end Go.Proofs.YtjebaagkomejaaaGreatDoor
namespace Go.Proofs.YtjebaagkomejaaaGreatDoor
open Go.RowKit
def repertoire:List Nat:=[32,33,34,35,36,37,38,39,40,41,42,43,44,45,46,47,48,49,50,51,52,53,54,55,56,57,58,59,60,61,62,63,64,65,66,67,68,69,70,71,72,73,74,75,76,77,78,79,80,81,82,83,84,85,86,87,88,89,90,91,92,93,94,95,96,97,98,99,100,101,102,103,104,105,106,107,108,109,110,111,112,113,114,115,116,117,118,119,120,121,122,123,124,125,126,161,162,163,164,165,166,167,169,171,174,176,183,187,189,191,192,193,194,195,196,197,198,199,200,201,202,203,204,205,206,207,209,210,211,212,213,214,216,217,218,219,220,223,224,225,226,227,228,229,230,231,232,233,234,235,236,237,238,239,241,242,243,244,245,246,248,249,250,251,252,338,339,8212,8216,8217,8220,8221,8226,8230,8482,9834]
def idx (r:Int):Int:=if 32≤r∧r≤126 then r-32 else iD repertoire r 0
def A_:ByteArray:=⟨#[32,33,34,35,36,37,38,39,40,41,42,43,44,45,46,47,48,49,50,51,52,53,54,55,56,57,58,59,60,61,62,63,64,65,66,67,68,69,70,71,72,73,74,75,76,77,78,79,80,81,82,83,84,85,86,87,88,89,90,91,92,93,94,95,96,97,98,99,100,101,102,103,104,105,106,107,108,109,110,111,112,113,114,115,116,117,118,119,120,121,122,123,124,125,126,194,161,194,162,194,163,194,164,194,165,194,166,194,167,194,169,194,171,194,174,194,176,194,183,194,187,194,189,194,191,195,128,195,129,195,130,195,131,195,132,195,133,195,134,195,135,195,136,195,137,195,138,195,139,195,140,195,141,195,142,195,143,195,145,195,146,195,147,195,148,195,149,195,150,195,152,195,153,195,154,195,155,195,156,195,159,195,160,195,161,195,162,195,163,195,164,195,165,195,166,195,167,195,168,195,169,195,170,195,171,195,172,195,173,195,174,195,175,195,177,195,178,195,179,195,180,195,181,195,182,195,184,195,185,195,186,195,187,195,188,197,146,197,147,226,128,148,226,128,152,226,128,153,226,128,156,226,128,157,226,128,162,226,128,166,226,132,162,226,153,170]⟩
theorem zB:runes A_=repertoire:=by decide +kernel
theorem jN (r:Int)(w:Sj)(h0:-2147483648≤r)(h1:r≤2147483647) :
 Sl Tryz.prog 140 #[.int .i32 r] w fun e w'=>e=.returned (.int .i64 (idx r))∧Below w.heap.size w w':=by
 by_cases ha:32≤r∧r≤126
 · have hi:idx r=r-32:=by unfold idx;rw [if_pos ha]
   obtain⟨a0,a1⟩:=ha
   have HI:=h_ hi
   clear hi
   go_enter Tryz.func140,Tryz.ntmps140
   go_wp2
   go_ret
   rw [HI.out]
   exact⟨rfl,Below.refl _ _⟩
 · have hi:idx r=iD (runes A_) r 0:=by unfold idx;rw [if_neg ha,zB]
   have HI:=h_ hi
   clear hi
   rcases(show r<32∨126<r by omega) with hb|hb
   all_goals
    clear ha
    go_enter Tryz.func140,Tryz.ntmps140
    go_wp2_with fail
    refine(uI A_ r _ (by decide +kernel)).mono ?_
    rintro e w1 ⟨rfl,hB⟩
    go_wp2_with fail
    go_ret
    rw [HI.out]
    exact⟨rfl,hB⟩
end Go.Proofs.YtjebaagkomejaaaGreatDoor
namespace Go.Proofs.YtjebaagkomejaaaGreatDoor
open Go.Shelf Go.RowKit Go.Lib Go.Sort
variable {P:Program} {α:Type} [Inhabited α]
structure qV (P:Program):Prop where
 mixed:P.follows .mixedOrders=true
 f255:P.funcs[255]? =some Tryz.f255
 f242:P.funcs[242]? =some Tryz.f242
 f224:P.funcs[224]? =some Tryz.f224
 f187:P.funcs[187]? =some Tryz.f187
 f133:P.funcs[133]? =some Tryz.f133
 ins:SlLaysF0.n20 P ⟨fun|20=>223|n=>n,fun|22=>24|24=>72|25=>183|n=>n,fun n=>n⟩
 t0:P.underlying 0=some (TypeDesc.tuple #[])
 a0:∀ w,(isAgg 0).run P w=.ok false w
 z0:∀ w,(Sk 0).run P w=.ok 1 w
 v0:∀ w,(zeroValue 0).run P w=.ok (Sm.tuple #[]) w
 t3:P.underlying 3=some (TypeDesc.int Sv)
 a3:∀ w,(isAgg 3).run P w=.ok false w
 z3:∀ w,(Sk 3).run P w=.ok 1 w
 v3:∀ w,(zeroValue 3).run P w=.ok (Sm.int Sv 0) w
 t4:P.underlying 4=some (TypeDesc.bool)
 a4:∀ w,(isAgg 4).run P w=.ok false w
 z4:∀ w,(Sk 4).run P w=.ok 1 w
 v4:∀ w,(zeroValue 4).run P w=.ok (Sm.bool false) w
 t24:P.underlying 24=some (TypeDesc.slice 72)
 a24:∀ w,(isAgg 24).run P w=.ok false w
 z24:∀ w,(Sk 24).run P w=.ok 1 w
 v24:∀ w,(zeroValue 24).run P w=.ok (Sm.slice none 0 0) w
 t216:P.underlying 216=some (TypeDesc.int Sx)
 a216:∀ w,(isAgg 216).run P w=.ok false w
 z216:∀ w,(Sk 216).run P w=.ok 1 w
 v216:∀ w,(zeroValue 216).run P w=.ok (Sm.int Sx 0) w
 t183:P.underlying 183=some (TypeDesc.func #[72,72] #[3] false)
 a183:∀ w,(isAgg 183).run P w=.ok false w
 z183:∀ w,(Sk 183).run P w=.ok 1 w
 v183:∀ w,(zeroValue 183).run P w=.ok (Sm.nilFunc) w
def qY (enc:α→List Sm)(k:Nat)(w0:Sj)(blk off:Nat)(d:Array α)(a b:Nat)(f:Nat→Nat)(e:Ending)(w':Sj):Prop :=
 e=.returned (.tuple #[])∧∃ d',d'.size=d.size∧SWK enc k w0 blk off d' w'∧PermIn a b d d'∧∀ t,d'[t]! =d[f t]!
theorem mm (L:qV P)(k:Nat)(aE:∀ w,(isAgg 72).run P w=.ok true w)(zE:∀ w,(Sk 72).run P w=.ok k w)(enc:α→List Sm)(fv:Sm)(blk off cap a b n:Nat)(d0 d:Array α)(w0 w:Sj)
 (R:RowK enc k w0 blk off d0) (hs:d0.size=d.size) (S:SWK enc k w0 blk off d w) (hab:a+n≤b) (hb:b+n≤d.size) (hsz:d.size<4611686018427387904) :
 Sl P 255 #[.slice (some ⟨blk,off,none⟩) d.size cap,.int .i64 a,.int .i64 b,.int .i64 n,fv] w (qY enc k w0 blk off d a (b+n) (swIx a b n)):=by
 have mixed:=L.mixed;have t0:=L.t0;have a0:=L.a0;have z0:=L.z0;have v0:=L.v0;have t3:=L.t3;have a3:=L.a3;have z3:=L.z3;have v3:=L.v3;have t4:=L.t4;have a4:=L.a4;have z4:=L.z4;have v4:=L.v4;have t24:=L.t24;have a24:=L.a24;have z24:=L.z24;have v24:=L.v24;have t183:=L.t183;have a183:=L.a183;have z183:=L.z183;have v183:=L.v183
 have FG:=L.f255
 have S0:Aside (SWK enc k w0 blk off d w):=S
 clear S L
 generalize hQ:qY enc k w0 blk off d a (b+n) (swIx a b n)=Q
 have HQ:=h_ (fun(dk:Array α) (W:Sj) (h1:dk.size=d.size) (h2:SWK enc k w0 blk off dk W) (h3:PermIn a (b+n) d dk) (h4:∀ t,dk[t]! =d[swIx a b n t]!)=>show Q (.returned (.tuple #[])) W from hQ▸⟨rfl,dk,h1,h2,h3,h4⟩)
 clear hQ
 go_enter FG,Tryz.ntmps255
 go_wp2
 go_loopg [10] n (fun kx s10 wr=>∃ (i:Nat) (dk:Array α),s10=.int .i64 i∧i≤n∧n-i≤kx∧dk.size=d.size∧Aside (SWK enc k w0 blk off dk wr)∧Hid (PermIn a (b+n) d dk)∧Hid (∀ t,dk[t]! =d[swIx a b i t]!))
 case atStart=>exact⟨0,d,rfl,Nat.zero_le _,by omega,rfl,S0,permIn_refl _ _ _,fun t=>by rw [DQ]⟩
 case round =>
  clear S0
  obtain⟨i,dk,rfl,hin,hkx,hds,S1,HP,HT⟩:=hrel
  by_cases hlt:i<n
  · have hltz:(i:Int)<(n:Int):=by omega
    go_wp2_with fail
    have ea:((a:Int)+(i:Int)).toNat=a+i:=by omega
    have pa:(0:Int)≤(a:Int)+(i:Int):=by omega
    have ba:(a:Int)+(i:Int)<(d.size:Int):=by omega
    have ra:Sv.wrap ((a:Int)+(i:Int))=(a:Int)+(i:Int):=by rw [Sw];omega
    have ec:((b:Int)+(i:Int)).toNat=b+i:=by omega
    have pc:(0:Int)≤(b:Int)+(i:Int):=by omega
    have bc:(b:Int)+(i:Int)<(d.size:Int):=by omega
    have rc:Sv.wrap ((b:Int)+(i:Int))=(b:Int)+(i:Int):=by rw [Sw];omega
    have S2:Aside (SWK enc k w0 blk off (swp dk (a+i) (b+i)) ((wr.drew.setCells blk (off+(a+i)*k) (enc dk[b+i]!)).setCells blk (off+(b+i)*k) (enc dk[a+i]!))):=S1.out.swapped R (a+i) (b+i) (by omega) (by omega)
    have la:=S1.out.ld1 R (by omega) P (a+i) (by omega)
    have lb:=S1.out.ld1 R (by omega) P (b+i) (by omega)
    have sa:=S1.out.st1 R (by omega) P (a+i) (by omega) dk[b+i]!
    have sb:=S1.out.st2 R (by omega) P (a+i) (b+i) (by omega) (by omega) dk[b+i]! dk[a+i]!
    have na:(enc dk[a+i]!).length=k:=R.hk _
    have nb:(enc dk[b+i]!).length=k:=R.hk _
    generalize enc dk[a+i]! =cI at S2 la sb na
    generalize enc dk[b+i]! =cJ at S2 lb sa sb nb
    clear S1
    go_wp2_with fail
    go_big_region_o
    clear la lb sa sb
    generalize (wr.drew.setCells blk (off+(a+i)*k) cJ).setCells blk (off+(b+i)*k) cI=w2 at S2 ⊢
    go_wp2
    go_roundg (n-(i+1))
    case measure=>omega
    case rel =>
     exact⟨i+1,swp dk (a+i) (b+i),by go_num,by omega,Sr _,by rw [size_swp];exact hds,S2,St _ _ _ _ _ HP.out (swp_permIn _ _ _ _ _ (by omega) (by omega) (by omega) (by omega) (by omega)),DR d dk a b n i hab hlt hb hds HT.out⟩
  · obtain rfl:i=n:=by omega
    go_wp2
    go_end0
    exact HQ.out dk _ hds S1.out HP.out HT.out
theorem sg (L:qV P)(k:Nat)(aE:∀ w,(isAgg 72).run P w=.ok true w)(zE:∀ w,(Sk 72).run P w=.ok k w)(enc:α→List Sm)(fv:Sm)(blk off cap a m b:Nat)(d0 d:Array α)(w0 w:Sj)
 (R:RowK enc k w0 blk off d0) (hs:d0.size=d.size) (S:SWK enc k w0 blk off d w) (KT:a<m) (hmb:m<b) (hb:b≤d.size) (hsz:d.size<4611686018427387904) :
 Sl P 242 #[.slice (some ⟨blk,off,none⟩) d.size cap,.int .i64 a,.int .i64 m,.int .i64 b,fv] w (qY enc k w0 blk off d a b (cD a m b)):=by
 have mixed:=L.mixed;have t0:=L.t0;have a0:=L.a0;have z0:=L.z0;have v0:=L.v0;have t3:=L.t3;have a3:=L.a3;have z3:=L.z3;have v3:=L.v3;have t4:=L.t4;have a4:=L.a4;have z4:=L.z4;have v4:=L.v4;have t24:=L.t24;have a24:=L.a24;have z24:=L.z24;have v24:=L.v24;have t183:=L.t183;have a183:=L.a183;have z183:=L.z183;have v183:=L.v183
 have FG:=L.f242
 have e299:∀ args w,(callFunc 255 args).run P w=.ok (.enter 255 args) w:=enters_of L.f255 (by kernel_rfl) rfl
 have HC:=h_ (fun(x y n:Nat) (dk:Array α) (W:Sj) (h1:d0.size=dk.size) (h2:SWK enc k w0 blk off dk W) (h3:x+n≤y) (h4:y+n≤dk.size) (h5:dk.size<4611686018427387904)=>mm L k aE zE enc fv blk off cap x y n d0 dk w0 W R h1 h2 h3 h4 h5)
 have S0:Aside (SWK enc k w0 blk off d w):=S
 clear S L
 generalize hQ:qY enc k w0 blk off d a b (cD a m b)=Q
 have HQ:=h_ (fun(dk:Array α) (W:Sj) (h1:dk.size=d.size) (h2:SWK enc k w0 blk off dk W) (h3:PermIn a b d dk) (h4:∀ t,dk[t]! =d[cD a m b t]!)=>show Q (.returned (.tuple #[])) W from hQ▸⟨rfl,dk,h1,h2,h3,h4⟩)
 clear hQ
 go_enter FG,Tryz.ntmps242
 go_wp2
 go_loopg [10,11] (b-a) (fun kx s10 s11 wr=>∃ (i j:Nat) (dk:Array α),s10=.int .i64 i∧s11=.int .i64 j∧0<i∧0<j∧a+i≤m∧m+j≤b∧i+j≤kx∧dk.size=d.size∧Aside (SWK enc k w0 blk off dk wr)∧Hid (PermIn a b d dk)∧Hid (∀ t,dk[cD (m-i) m (m+j) t]! =d[cD a m b t]!))
 case atStart=>exact⟨m-a,b-m,d,by go_num,by go_num,by omega,by omega,by omega,by omega,by omega,rfl,S0,permIn_refl _ _ _,fun t=>by rw [show m-(m-a)=a by omega,show m+(b-m)=b by omega]⟩
 case round =>
  clear S0
  obtain⟨i,j,dk,rfl,rfl,hi,hj,hai,hjb,hkx,hds,S1,HP,HT⟩:=hrel
  obtain⟨x,hx⟩:∃ x,x+i=m:=⟨m-i,by omega⟩
  have hxz:(m:Int)-(i:Int)=(x:Int):=by omega
  have La:=h_ (show m-i=x by omega)
  rcases Nat.lt_trichotomy i j with hij|hij|hij
  · have Ha:((i:Int) != (j:Int))=true:=by simp;omega
    have KE:(i != j)=true:=by simp;omega
    have hg:¬ (j:Int)<(i:Int):=by omega
    obtain⟨y,hy⟩:∃ y,y+i=m+j:=⟨m+j-i,by omega⟩
    have Pc:(m:Int)+(j:Int)-(i:Int)=(y:Int):=by omega
    have hC:=HC.out x y i dk wr (by omega) S1.out (by omega) (by omega) (by omega)
    rw [hds] at hC
    have jc:=h_ hC
    have HY:=h_ (show y=m+j-i by omega)
    have hyb:y+i≤b:=by omega
    have hax:a≤x:=by omega
    clear hC hx hy
    go_wp2_with (go_at_fn 255;refine jc.out.mono ?_;rintro e w' ⟨rfl,d',hd1,S2,hd3,hd4⟩)
    have HT2:Hid (∀ t,d'[cD (m-i) m (m+(j-i)) t]! =d[cD a m b t]!):=fun t=>by
     rw [hd4,←HT.out t,HY.out,←La.out,show m+(j-i)=m+j-i by omega,zK m i j t hi hij (by omega)]
    have Bk:Hid (PermIn a b d d'):=St _ _ _ _ _ HP.out (Su _ _ x (y+i) a b hax hyb (by omega) hd3)
    have S3:Aside (SWK enc k w0 blk off d' w'):=S2
    have EU:d'.size=d.size:=by omega
    clear hd1 hd3 hd4 S2 jc
    go_wp2
    go_roundg (i+(j-i))
    case measure=>omega
    case rel=>exact⟨i,j-i,d',rfl,by go_num,hi,by omega,hai,by omega,Sr _,EU,S3,Bk,HT2⟩
  · obtain rfl:i=j:=hij
    have Ha:((i:Int) != (i:Int))=false:=by simp
    have hC:=HC.out x m i dk wr (by omega) S1.out (by omega) (by omega) (by omega)
    rw [hds] at hC
    have jc:=h_ hC
    have hax:a≤x:=by omega
    clear hC hx
    go_wp2_with (go_at_fn 255;refine jc.out.mono ?_;rintro e w' ⟨rfl,d',hd1,S2,hd3,hd4⟩)
    go_end0
    refine HQ.out d' _ (by omega) S2 (St _ _ _ _ _ HP.out (Su _ _ x (m+i) a b hax (by omega) (by omega) hd3)) fun t=>?_
    rw [hd4,←HT.out t,←La.out,BM m i t (by omega)]
  · have Ha:((i:Int) != (j:Int))=true:=by simp;omega
    have KE:(i != j)=true:=by simp;omega
    have hg:(j:Int)<(i:Int):=by omega
    have hC:=HC.out x m j dk wr (by omega) S1.out (by omega) (by omega) (by omega)
    rw [hds] at hC
    have jc:=h_ hC
    have hax:a≤x:=by omega
    clear hC hx
    go_wp2_with (go_at_fn 255;refine jc.out.mono ?_;rintro e w' ⟨rfl,d',hd1,S2,hd3,hd4⟩)
    have HT2:Hid (∀ t,d'[cD (m-(i-j)) m (m+j) t]! =d[cD a m b t]!):=fun t=>by
     rw [hd4,←HT.out t,←La.out,show m-(i-j)=m-i+j by omega,BN m i j t hj hij (by omega)]
    have Bk:Hid (PermIn a b d d'):=St _ _ _ _ _ HP.out (Su _ _ x (m+j) a b hax hjb (by omega) hd3)
    have S3:Aside (SWK enc k w0 blk off d' w'):=S2
    have EU:d'.size=d.size:=by omega
    clear hd1 hd3 hd4 S2 jc
    go_wp2
    go_roundg (i-j+j)
    case measure=>omega
    case rel=>exact⟨i-j,j,d',by go_num,rfl,by omega,hj,by omega,hjb,Sr _,EU,S3,Bk,HT2⟩
end Go.Proofs.YtjebaagkomejaaaGreatDoor
