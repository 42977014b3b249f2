/- The contract of lines.Name: what it returns for any string. The contracts of charset.place and charset.Index: what they return for any string and character. -/
import Derived.WalkLawsBesides
import Derived.WalkSpells
import Derived.Lib.Hide
import Derived.Test.YtjebaagkomejaaaGreatDoorProg
import Derived.Deep.WholeRow
import Derived.Sort.LotA
set_option linter.unusedVariables false
set_option linter.unusedSimpArgs false
set_option maxRecDepth 100000
set_option maxHeartbeats 12800000
open Go.Lib renaming hid→h_
open Go renaming World→Sh,Calls→Si,wpList_store_row→Sj,heap_alloc_last→Sk
open Go.Utf8 renaming decode→Sl
open Nat renaming le_refl→Sm
open Go.World renaming size_alloc→Sn
namespace Go.Proofs.YtjebaagkomejaaaGreatDoor
open Go.RowKit
def fw (c:Nat):Bool:=decide (65≤c∧c≤90)||decide (48≤c∧c≤57)||decide (c=95)||decide (c=45)
theorem Gf (c:Nat)(h:(65≤c∧c≤90)∨(48≤c∧c≤57)∨c=95∨c=45):fw c=true:=by
 simp only [fw,Bool.or_eq_true,decide_eq_true_eq];omega
theorem Kf (c:Nat)(h:¬ ((65≤c∧c≤90)∨(48≤c∧c≤57)∨c=95∨c=45)):fw c=false:=by
 simp only [fw,Bool.or_eq_false_iff,decide_eq_false_iff_not];omega
def c_ (s:ByteArray):Bool:=decide (1≤s.size)&&decide (s.size≤16)&&decide (65≤(s.data.toList.headD 0).toNat)&&decide ((s.data.toList.headD 0).toNat≤90)&&s.data.toList.all (fun c=>fw c.toNat)
theorem kc (s:ByteArray)(h:0<s.size):s.data.toList.headD 0=s[0]:=by
 have hl:0<s.data.toList.length:=by simpa using h
 cases hs:s.data.toList with
 | nil=>rw [hs] at hl;simp at hl
 | cons c l =>
   have e:s[0]=s.data.toList[0]:=by rfl
   rw [e]
   simp [hs]
def okTo (s:ByteArray)(k:Nat):Prop:=(s.data.toList.take k).all (fun c=>fw c.toNat)=true
theorem zF (s:ByteArray):okTo s 0:=by simp [okTo]
theorem zG (s:ByteArray)(k:Nat)(h:k<s.size)(ho:okTo s k)(hb:fw s[k].toNat=true):okTo s (k+1):=by
 have hl:k<s.data.toList.length:=by simpa using h
 unfold okTo at *
 rw [List.take_succ_eq_append_getElem hl,List.all_append,ho]
 have e:s.data.toList[k]=s[k]:=rfl
 simp [e,hb]
theorem BX (s:ByteArray)(h1:1≤s.size)(h2:s.size≤16)(h3:65≤s[0].toNat)(h4:s[0].toNat≤90)(ho:okTo s s.size):c_ s=true:=by
 unfold okTo at ho
 rw [List.take_of_length_le (by simp)] at ho
 simp only [c_,kc s h1,h1,h2,h3,h4,ho,decide_true,Bool.and_true]
theorem D7 (s:ByteArray)(k:Nat)(h:k<s.size)(hb:fw s[k].toNat=false):c_ s=false:=by
 have hm:s[k]∈s.data.toList:=List.getElem_mem (l:=s.data.toList) (by simpa using h)
 have:s.data.toList.all (fun c=>fw c.toNat)=false:=by
  rw [List.all_eq_false]
  exact⟨s[k],hm,by simp [hb]⟩
 simp [c_,this]
theorem eK (s:ByteArray)(w:Sh)(hs:s.size≤4000000) :
 Si Tryz.prog 78 #[.string s] w fun e w'=>e=.returned (.bool (c_ s))∧w=w':=by
 by_cases h1:s.size<1
 · have hn:c_ s=false:=by simp [c_,show ¬ 1≤s.size by omega]
   have HN:=h_ hn;clear hn
   go_enter Tryz.func78,Tryz.ntmps78
   go_wp2
   go_ret
   rw [HN.out];exact⟨rfl,rfl⟩
 by_cases h2:16<s.size
 · have hn:c_ s=false:=by simp [c_,show ¬ s.size≤16 by omega]
   have HN:=h_ hn;clear hn
   go_enter Tryz.func78,Tryz.ntmps78
   go_wp2
   go_ret
   rw [HN.out];exact⟨rfl,rfl⟩
 have hp:0<s.size:=by omega
 by_cases h3:s[0].toNat<65
 · have hn:c_ s=false:=by simp only [c_,kc s hp,show ¬ 65≤s[0].toNat by omega,decide_false,Bool.and_false,Bool.false_and]
   have HN:=h_ hn;clear hn
   go_enter Tryz.func78,Tryz.ntmps78
   go_wp2
   go_ret
   rw [HN.out];exact⟨rfl,rfl⟩
 by_cases h4:90<s[0].toNat
 · have hn:c_ s=false:=by simp only [c_,kc s hp,show ¬ s[0].toNat≤90 by omega,decide_false,Bool.and_false,Bool.false_and]
   have HN:=h_ hn;clear hn
   go_enter Tryz.func78,Tryz.ntmps78
   go_wp2
   go_ret
   rw [HN.out];exact⟨rfl,rfl⟩
 have HY:=h_ (BX s (by omega) (by omega) (by omega) (by omega))
 go_enter Tryz.func78,Tryz.ntmps78
 go_wp2
 go_loop [25] (fun i=>∃ k:Nat,k≤s.size∧i=.int .i64 k∧okTo s k) (fun i=>s.size-(intOf i).toNat)
 case atStart=>exact⟨0,by omega,rfl,zF s⟩
 case round =>
  obtain⟨k,hk,rfl,hok⟩:=hrel
  by_cases hlt:k<s.size
  · have hN:=h_ (D7 s k hlt)
    have hS:=h_ (zG s k hlt hok)
    have hb:=s[k].toNat_lt
    go_wp2
    all_goals first
     | (go_round
        case rel=>exact⟨k+1,by omega,by go_num,hS.out (Gf _ (by first|omega|(simp only [bne_eq_false_iff_eq] at *;omega)))⟩
        case measure=>simp [intOf];omega)
     | (go_ret
        rw [hN.out (Kf _ (by first|omega|(simp only [bne_iff_ne,ne_eq] at *;omega)))]
        exact⟨rfl,rfl⟩)
  · obtain rfl:k=s.size:=by omega
    go_wp2
    go_ret
    rw [HY.out hok];exact⟨rfl,rfl⟩
def cZ (s:ByteArray):Nat→Nat→List Nat
 | 0,_=>[]
 | b+1,pos=>if pos<s.size then (Sl s pos).1::cZ s b (pos+(Sl s pos).2) else []
def runes (s:ByteArray):List Nat:=cZ s s.size 0
theorem gT (s:ByteArray)(b pos:Nat)(h:¬ pos<s.size):cZ s b pos=[]:=by
 cases b<;>simp [cZ,h]
theorem im (s:ByteArray)(b pos:Nat)(h:pos<s.size)(hb:s.size≤pos+b):∃ c,b=c+1∧cZ s b pos=(Sl s pos).1::cZ s c (pos+(Sl s pos).2):=by
 cases b with
 | zero=>omega
 | succ c=>exact⟨c,rfl,by simp [cZ,h]⟩
theorem width_pos (s:ByteArray)(pos:Nat)(h:pos<s.size):1≤(Sl s pos).2:=by
 by_cases ha:(s[pos]'h).toNat<128
 · rw [decode_ascii s pos h ha]
   exact Sm _
 · exact(decode_high s pos h (by omega)).2
def iN:List Nat→Int→Int→Int
 | [],_,_=>-1
 | x::l,r,n=>if (x:Int)=r then n else iN l r (n+1)
theorem wW (l:List Nat)(x:Nat)(r n:Int)(h:(x:Int)=r):iN (x::l) r n=n:=by simp [iN,h]
theorem zx (l:List Nat)(x:Nat)(r n:Int)(h:¬ (x:Int)=r):iN (x::l) r n=iN l r (n+1):=by simp [iN,h]
theorem ue (s:ByteArray)(r:Int)(w:Sh)(hs:s.size≤4000000) :
 Si Tryz.prog 193 #[.string s,.int .i32 r] w fun e w'=>e=.returned (.int .i64 (iN (runes s) r 0))∧Below w.heap.size w w':=by
 generalize hG:iN (runes s) r 0=G
 have hG0:iN (cZ s s.size 0) r 0=G:=hG
 have H0:=h_ hG0
 clear hG hG0
 go_enter Tryz.func193,Tryz.ntmps193
 go_wp2
 go_loopw [5] (fun n w'=>∃ (pos b:Nat) (k:Nat),w'=w.iter s pos∧n=.int .i64 k∧iN (cZ s b pos) r k=G∧s.size≤pos+b∧k≤pos∧k≤s.size) (fun _ w'=>s.size-w'.iterPos w.heap.size)
 case atStart=>exact⟨0,s.size,0,rfl,rfl,H0.out,by omega,by omega,by omega⟩
 case round =>
  obtain⟨pos,b,k,rfl,rfl,hp,hb,hk,hk2⟩:=hrel
  by_cases hlt:pos<s.size
  · obtain⟨c,rfl,hn⟩:=im s b pos hlt hb
    have hwd:=width_pos s pos hlt
    have hnx:∀ ty,(Instr.next (.pointer (some ⟨w.heap.size,0,none⟩)) true ty).run Tryz.prog (w.iter s pos)=_:=fun ty=>run_next_any w s pos ty hlt
    rw [hn] at hp
    by_cases he:((Sl s pos).1:Int)=r
    · rw [wW _ _ _ _ he] at hp
      have hbe:(((Sl s pos).1:Int)==r)=true:=by simpa using he
      have HP:=h_ hp
      clear hp hn he H0
      go_wp2
      go_ret
      exact⟨by rw [←HP.out];rfl,(Below.refl _ _).alloc (Sm _) _⟩
    · rw [zx _ _ _ _ he] at hp
      have hbe:(((Sl s pos).1:Int)==r)=false:=by simpa using he
      have HP:=h_ hp
      clear hp hn he H0
      go_wp2
      go_roundw
      case rel=>exact⟨pos+(Sl s pos).2,c,k+1,rfl,by go_num,HP.out,by omega,by omega,by omega⟩
      case measure=>simp;omega
  · have hnx:∀ ty,(Instr.next (.pointer (some ⟨w.heap.size,0,none⟩)) true ty).run Tryz.prog (w.iter s pos)=_:=fun ty=>run_next_end w s pos ty hlt
    rw [gT s b pos hlt] at hp
    have HP:=h_ hp
    clear hp H0
    go_wp2
    go_ret
    exact⟨by rw [←HP.out];rfl,(Below.refl _ _).alloc (Sm _) _⟩
end Go.Proofs.YtjebaagkomejaaaGreatDoor
namespace Go.Proofs.YtjebaagkomejaaaGreatDoor
open Go.RowKit
def fM (r:Int):Int:=if r=1 then 5005 else if r=2 then 5000 else if r=3 then 4800 else if r=4 then 4004 else if r=5 then 4000 else if r=6 then 2400 else if r=7 then 2002 else 0
def eS (r:Int):Bool:=decide (r=4)||decide (r=7)
def dv:Array Value:=#[.string ⟨#[]⟩,.int .i64 0,.int .i64 0,.bool false,.string ⟨#[50,51,46,57,55,54]⟩,.int .i64 5005,.int .i64 24,.bool false,.string ⟨#[50,52]⟩,.int .i64 5000,.int .i64 24,.bool false,.string ⟨#[50,53]⟩,.int .i64 4800,.int .i64 25,.bool false,.string ⟨#[50,57,46,57,55]⟩,.int .i64 4004,.int .i64 30,.bool true,.string ⟨#[51,48]⟩,.int .i64 4000,.int .i64 30,.bool false,.string ⟨#[53,48]⟩,.int .i64 2400,.int .i64 50,.bool false,.string ⟨#[53,57,46,57,52]⟩,.int .i64 2002,.int .i64 60,.bool true]
theorem mB:dv.all (·.oneCell')=true:=by decide +kernel
theorem Tryz.size189:(Tryz.prog.info? 249).map (·.size)=some dv.size:=by kernel_rfl
theorem l6 (w:Sh)(o:Obj)(i:Nat)(v:Value)(h:dv[i]? =some v):((w.alloc o).alloc (.cells dv 249)).cell? ⟨w.heap.size+1,i,none⟩=some v:=by
 have:=cell_of_row ((w.alloc o).alloc (.cells dv 249)) (w.heap.size+1) i dv 249 (0,0) (by
  have:=Sk (w.alloc o) (.cells dv 249)
  rwa [Sn] at this)
 rw [this,h]
theorem oN (w:Sh)(o:Obj)(c c':Array Value)(t:TypeId):((w.alloc o).alloc (.cells c t)).setRow (w.heap.size+1) c'=(w.alloc o).alloc (.cells c' t):=by
 have:=Sh.setRow_alloc_new (w.alloc o) c c' t
 rwa [Sn] at this
theorem mf (w:Sh)(o o':Obj):((w.alloc o).alloc o').heap[w.heap.size+1]? =some o':=by
 have:=Sk (w.alloc o) o'
 rwa [Sn] at this
def A4 (r:Int)(w:Sh)(e:Ending)(w':Sh):Prop:=∃ a b,e=.returned (.agg #[.string a,.int .i64 (fM r),.int .i64 b,.bool (eS r)])∧Below w.heap.size w w'
theorem Ge (r:Int)(w:Sh)(h0:8≤r)(h1:r≤255) :
 Si Tryz.prog 218 #[.int .u8 r] w (A4 r w):=by
 have ht:fM r=0:=by unfold fM;repeat rw [if_neg (by omega)]
 have hd:eS r=false:=by simp [eS];omega
 have HT:=h_ ht;have HD:=h_ hd
 clear ht hd
 go_enter Tryz.func218,Tryz.ntmps218
 go_wp2_with (with_reducible refine Sj rfl 249 (.tmp 3) (.tmp 12) rfl (w.heap.size+1) dv ?hx ?hy 249 ?old ?hg Tryz.size189 ?ho mB ?_;rotate_right;rw [oN])
 case hx=>rfl
 case hy=>rfl
 case hg=>exact mf _ _ _
 case ho=>rfl
 exact bodyPost_ret (v:=.agg #[.string ⟨#[]⟩,.int .i64 0,.int .i64 0,.bool false]) (by simp [results,Tryz.results218,go_sem]) rfl
  ⟨⟨#[]⟩,0,by rw [HT.out,HD.out],((Below.refl _ _).alloc (Sm _) _).alloc (by simp) _⟩
theorem Ke (i:Nat)(w:Sh)(h1:i<8)(a:ByteArray)(b:Int)
 (c0:dv[i*4]? =some (.string a)) (c1:dv[i*4+1]? =some (.int .i64 (fM i))) (c2:dv[i*4+2]? =some (.int .i64 b)) (c3:dv[i*4+3]? =some (.bool (eS i))) :
 Si Tryz.prog 218 #[.int .u8 i] w (A4 i w):=by
 have t0:=fun o=>l6 w o _ _ c0
 have t1:=fun o=>l6 w o _ _ c1
 have t2:=fun o=>l6 w o _ _ c2
 have t3:=fun o=>l6 w o _ _ c3
 clear c0 c1 c2 c3
 have h1':(i:Int)<8:=by omega
 go_enter Tryz.func218,Tryz.ntmps218
 go_wp2_with (with_reducible refine Sj rfl 249 (.tmp 3) (.tmp 12) rfl (w.heap.size+1) dv ?hx ?hy 249 ?old ?hg Tryz.size189 ?ho mB ?_;rotate_right;rw [oN])
 case hx=>rfl
 case hy=>rfl
 case hg=>exact mf _ _ _
 case ho=>rfl
 exact bodyPost_ret (v:=.agg #[.string a,.int .i64 (fM i),.int .i64 b,.bool (eS i)]) (by simp [results,Tryz.results218,go_sem]) rfl
  ⟨a,b,rfl,((Below.refl _ _).alloc (Sm _) _).alloc (by simp) _⟩
theorem vG (r:Int)(w:Sh)(h0:0≤r)(h1:r≤255):Si Tryz.prog 218 #[.int .u8 r] w (A4 r w):=by
 by_cases h8:8≤r
 · exact Ge r w h8 h1
 · have h:∀ i:Fin 8,∃ a b,dv[i.val*4]? =some (.string a)∧dv[i.val*4+1]? =some (.int .i64 (fM i.val))∧dv[i.val*4+2]? =some (.int .i64 b)∧dv[i.val*4+3]? =some (.bool (eS i.val)):=by
    intro i
    match i with
    | 0=>exact⟨_,_,rfl,rfl,rfl,rfl⟩
    | 1=>exact⟨_,_,rfl,rfl,rfl,rfl⟩
    | 2=>exact⟨_,_,rfl,rfl,rfl,rfl⟩
    | 3=>exact⟨_,_,rfl,rfl,rfl,rfl⟩
    | 4=>exact⟨_,_,rfl,rfl,rfl,rfl⟩
    | 5=>exact⟨_,_,rfl,rfl,rfl,rfl⟩
    | 6=>exact⟨_,_,rfl,rfl,rfl,rfl⟩
    | 7=>exact⟨_,_,rfl,rfl,rfl,rfl⟩
   obtain⟨a,b,c0,c1,c2,c3⟩:=h ⟨r.toNat,by omega⟩
   have:=Ke r.toNat w (by omega) a b c0 c1 c2 c3
   rwa [Int.toNat_of_nonneg h0] at this
theorem xS (a b c d:Value)(w:Sh):(Instr.field 227 (.agg #[a,b,c,d]) 1).run Tryz.prog w=.ok b w:=by kernel_rfl
theorem xR (a b c d:Value)(w:Sh):(Instr.field 227 (.agg #[a,b,c,d]) 3).run Tryz.prog w=.ok d w:=by kernel_rfl
attribute [local go_sem] xS xR
def iV (r:Int):Bool:=decide (0<fM r)
theorem fL (r:Int)(w:Sh)(h0:0≤r)(h1:r≤255) :
 Si Tryz.prog 174 #[.int .u8 r] w fun e w'=>e=.returned (.bool (iV r))∧Below w.heap.size w w':=by
 unfold iV
 go_enter Tryz.func174,Tryz.ntmps174
 go_wp2_with fail
 refine(vG r _ h0 h1).mono ?_
 rintro e w1 ⟨a,b,rfl,hb⟩
 go_wp2_with fail
 go_ret
 exact⟨rfl,hb⟩
theorem nY (r:Int)(w:Sh)(h0:0≤r)(h1:r≤255) :
 Si Tryz.prog 175 #[.int .u8 r] w fun e w'=>e=.returned (.bool (eS r))∧Below w.heap.size w w':=by
 go_enter Tryz.func175,Tryz.ntmps175
 go_wp2_with fail
 refine(vG r _ h0 h1).mono ?_
 rintro e w1 ⟨a,b,rfl,hb⟩
 go_wp2_with fail
 go_ret
 exact⟨rfl,hb⟩
def pR (r:Int)(drop:Bool):Int:=if iV r&&(!drop||eS r) then 0 else 13
theorem wT (r:Int)(drop:Bool)(w:Sh)(h0:0≤r)(h1:r≤255) :
 Si Tryz.prog 112 #[.int .u8 r,.bool drop] w fun e w'=>e=.returned (.int .i64 (pR r drop))∧Below w.heap.size w w':=by
 have hE:pR r drop=if iV r&&(!drop||eS r) then 0 else 13:=rfl
 cases hv:iV r
 · rw [hv] at hE
   have HE:=h_ hE
   clear hE
   go_enter Tryz.func112,Tryz.ntmps112
   go_wp2_with (go_at_call 174;refine(fL _ _ h0 h1).mono ?_;rintro e w1 ⟨rfl,hb⟩)
   go_ret
   rw [HE.out]
   exact⟨rfl,hb⟩
 · cases drop
   · rw [hv] at hE
     have HE:=h_ hE
     clear hE
     go_enter Tryz.func112,Tryz.ntmps112
     go_wp2_with (go_at_call 174;refine(fL _ _ h0 h1).mono ?_;rintro e w1 ⟨rfl,hb⟩)
     go_ret
     rw [HE.out]
     exact⟨rfl,hb⟩
   · cases hd:eS r
     all_goals
      rw [hv,hd] at hE
      have HE:=h_ hE
      clear hE
      go_enter Tryz.func112,Tryz.ntmps112
      go_wp2_with (first
       | (go_at_call 174;refine(fL _ _ h0 h1).mono ?_;rintro e w1 ⟨rfl,hb⟩)
       | (go_at_call 175;refine(nY _ _ h0 h1).mono ?_;rintro e w2 ⟨rfl,hb2⟩))
      go_ret
      rw [HE.out]
      exact⟨rfl,hb.trans (hb2.mono hb.size)⟩
end Go.Proofs.YtjebaagkomejaaaGreatDoor
namespace Go.Proofs.YtjebaagkomejaaaGreatDoor
open Go.Sort
variable {α:Type} [Inhabited α]
def swIx (x y n i:Nat):Nat:=if x≤i∧i<x+n then i-x+y else if y≤i∧i<y+n then i-y+x else i
def cw (a m b i:Nat):Nat:=if a≤i∧i<a+(b-m) then i+(m-a) else if a+(b-m)≤i∧i<b then i-(b-m) else i
theorem DL (x y i:Nat):swIx x y 0 i=i:=by
 unfold swIx
 rw [if_neg (by omega),if_neg (by omega)]
theorem DM (d dk:Array α)(x y n k:Nat)(hxy:x+n≤y)(hk:k<n)(hy:y+n≤d.size)(hs:dk.size=d.size)(h:∀ i,dk[i]! =d[swIx x y k i]!)(i:Nat):(swp dk (x+k) (y+k))[i]! =d[swIx x y (k+1) i]!:=by
 rw [swp_get dk (show x+k<dk.size by omega) (show y+k<dk.size by omega),h,h,h]
 by_cases h1:i=y+k
 · rw [if_pos h1]
   congr 1
   unfold swIx
   rw [if_neg (by omega),if_neg (by omega),if_neg (by omega),if_pos (by omega)]
   omega
 · rw [if_neg h1]
   by_cases h2:i=x+k
   · rw [if_pos h2]
     congr 1
     unfold swIx
     rw [if_neg (by omega),if_neg (by omega),if_pos (by omega)]
     omega
   · rw [if_neg h2]
     congr 1
     unfold swIx
     by_cases h3:x≤i∧i<x+k
     · rw [if_pos h3,if_pos (by omega)]
     · rw [if_neg h3,if_neg (show ¬ (x≤i∧i<x+(k+1)) by omega)]
       by_cases h4:y≤i∧i<y+k
       · rw [if_pos h4,if_pos (by omega)]
       · rw [if_neg h4,if_neg (by omega)]
theorem BK (m i j t:Nat)(hj:0<j)(hij:j<i)(him:i≤m):swIx (m-i) m j (cw (m-i+j) m (m+j) t)=cw (m-i) m (m+j) t:=by
 unfold cw swIx
 repeat' split
 all_goals omega
theorem zo (m i j t:Nat)(hi:0<i)(hij:i<j)(him:i≤m):swIx (m-i) (m+j-i) i (cw (m-i) m (m+j-i) t)=cw (m-i) m (m+j) t:=by
 unfold cw swIx
 repeat' split
 all_goals omega
theorem BJ (m i t:Nat)(him:i≤m):swIx (m-i) m i t=cw (m-i) m (m+i) t:=by
 unfold cw swIx
 repeat' split
 all_goals omega
theorem rN (a m b i:Nat)(h:a=m∨m=b)(h1:a≤m)(h2:m≤b):cw a m b i=i:=by
 unfold cw
 repeat' split
 all_goals omega
theorem DJ (d dk:Array α)(a k:Nat)(hak:a≤k)(hk:k+1<d.size)(hs:dk.size=d.size)(h:∀ i,dk[i]! =d[cw a (a+1) (k+1) i]!)(i:Nat):(swp dk k (k+1))[i]! =d[cw a (a+1) (k+2) i]!:=by
 rw [swp_get dk (show k<dk.size by omega) (show k+1<dk.size by omega),h,h,h]
 by_cases h1:i=k+1
 · rw [if_pos h1];congr 1;unfold cw
   repeat' split
   all_goals omega
 · rw [if_neg h1]
   by_cases h2:i=k
   · rw [if_pos h2];congr 1;unfold cw
     repeat' split
     all_goals omega
   · rw [if_neg h2];congr 1;unfold cw
     repeat' split
     all_goals omega
theorem AS (d dk:Array α)(m k:Nat)(KT:k+1≤m)(hk:m<d.size)(hs:dk.size=d.size)(h:∀ i,dk[i]! =d[cw (k+1) m (m+1) i]!)(i:Nat):(swp dk (k+1) k)[i]! =d[cw k m (m+1) i]!:=by
 rw [swp_get dk (show k+1<dk.size by omega) (show k<dk.size by omega),h,h,h]
 by_cases h1:i=k
 · rw [if_pos h1];congr 1;unfold cw
   repeat' split
   all_goals omega
 · rw [if_neg h1]
   by_cases h2:i=k+1
   · rw [if_pos h2];congr 1;unfold cw
     repeat' split
     all_goals omega
   · rw [if_neg h2];congr 1;unfold cw
     repeat' split
     all_goals omega
variable {lt:α→α→Bool}
theorem SortedIn.part {a b a' b':Nat} {d:Array α} (h:SortedIn lt a b d)(ha:a≤a')(hb:b'≤b):SortedIn lt a' b' d:=fun i j h1 h2 h3=>h i j (by omega) h2 (by omega)
theorem PermIn.out {a b i:Nat} {d d':Array α} (h:PermIn a b d d')(hi:i<a∨b≤i):d'[i]! =d[i]!:=h.2.1 i hi
theorem Gq (hS:SWO lt)(d d':Array α)(a i b:Nat)(hi:a+1≤i)(hib:i≤b)(h:SortedIn lt (a+1) b d)(hlo:∀ t,a+1≤t→t<i→lt d[t]! d[a]! =true)(hhi:∀ t,i≤t→t<b→lt d[t]! d[a]! =false)
 (hd:∀ t,d'[t]! =d[cw a (a+1) i t]!):SortedIn lt a b d':=by
 have e1:∀ t,a≤t→t<i-1→d'[t]! =d[t+1]!:=fun t h1 h2=>by rw [hd];congr 1;unfold cw;rw [if_pos (by omega)];omega
 have e2:d'[i-1]! =d[a]!:=by rw [hd];congr 1;unfold cw;rw [if_neg (by omega),if_pos (by omega)];omega
 have e3:∀ t,i≤t→d'[t]! =d[t]!:=fun t h1=>by rw [hd];congr 1;unfold cw;rw [if_neg (by omega),if_neg (by omega)]
 intro p q hp hpq hq
 by_cases hq1:q<i-1
 · rw [e1 q (by omega) hq1,e1 p hp (by omega)];exact h _ _ (by omega) (by omega) (by omega)
 · by_cases hq2:q=i-1
   · rw [hq2,e2,e1 p hp (by omega)];exact hS.asymmA (hlo _ (by omega) (by omega))
   · rw [e3 q (by omega)]
     by_cases hp1:p<i-1
     · rw [e1 p hp hp1];exact h _ _ (by omega) (by omega) hq
     · by_cases hp2:p=i-1
       · rw [hp2,e2];exact hhi _ (by omega) hq
       · rw [e3 p (by omega)];exact h _ _ (by omega) hpq hq
theorem Cc (hS:SWO lt)(d d':Array α)(a i m:Nat)(hi:a≤i)(him:i≤m)(h:SortedIn lt a m d)(hlo:∀ t,a≤t→t<i→lt d[m]! d[t]! =false)(hhi:∀ t,i≤t→t<m→lt d[m]! d[t]! =true)
 (hd:∀ t,d'[t]! =d[cw i m (m+1) t]!):SortedIn lt a (m+1) d':=by
 have e1:∀ t,t<i→d'[t]! =d[t]!:=fun t h1=>by rw [hd];congr 1;unfold cw;rw [if_neg (by omega),if_neg (by omega)]
 have e2:d'[i]! =d[m]!:=by rw [hd];congr 1;unfold cw;rw [if_pos (by omega)];omega
 have e3:∀ t,i<t→t≤m→d'[t]! =d[t-1]!:=fun t h1 h2=>by rw [hd];congr 1;unfold cw;rw [if_neg (by omega),if_pos (by omega)];omega
 intro p q hp hpq hq
 by_cases hq1:q<i
 · rw [e1 q hq1,e1 p (by omega)];exact h _ _ hp hpq (by omega)
 · by_cases hq2:q=i
   · rw [hq2,e2,e1 p (by omega)];exact hlo _ hp (by omega)
   · rw [e3 q (by omega) (by omega)]
     by_cases hp1:p<i
     · rw [e1 p hp1];exact h _ _ hp (by omega) (by omega)
     · by_cases hp2:p=i
       · rw [hp2,e2];exact hS.asymmA (hhi _ (by omega) (by omega))
       · rw [e3 p (by omega) (by omega)];exact h _ _ (by omega) (by omega) (by omega)
theorem halves (hS:SWO lt)(d d':Array α)(a m b start fin mid:Nat)(h1:a≤start)(h2:start≤m)(h3:m≤fin)(h4:fin≤b)(hmid:start+(fin-m)=mid)(hl:SortedIn lt a m d)(hr:SortedIn lt m b d)
 (hL:∀ t u,a≤t→t<start→fin≤u→u<b→lt d[u]! d[t]! =false) (hR:∀ t u,start≤t→t<m→m≤u→u<fin→lt d[t]! d[u]! =false)
 (hd:∀ t,d'[t]! =d[cw start m fin t]!) :
 SortedIn lt a start d'∧SortedIn lt start mid d'∧SortedIn lt mid fin d'∧SortedIn lt fin b d'∧∀ u v,a≤u→u<mid→mid≤v→v<b→lt d'[v]! d'[u]! =false:=by
 have e1:∀ t,t<start→d'[t]! =d[t]!:=fun t h=>by rw [hd];congr 1;unfold cw;rw [if_neg (by omega),if_neg (by omega)]
 have e2:∀ t,start≤t→t<mid→d'[t]! =d[t+(m-start)]!:=fun t h h'=>by rw [hd];congr 1;unfold cw;rw [if_pos (by omega)]
 have e3:∀ t,mid≤t→t<fin→d'[t]! =d[t-(fin-m)]!:=fun t h h'=>by rw [hd];congr 1;unfold cw;rw [if_neg (by omega),if_pos (by omega)]
 have e4:∀ t,fin≤t→d'[t]! =d[t]!:=fun t h=>by rw [hd];congr 1;unfold cw;rw [if_neg (by omega),if_neg (by omega)]
 refine⟨fun p q hp hpq hq=>?_,fun p q hp hpq hq=>?_,fun p q hp hpq hq=>?_,fun p q hp hpq hq=>?_,fun u v hu hu' hv hv'=>?_⟩
 · rw [e1 q hq,e1 p (by omega)];exact hl _ _ hp hpq (by omega)
 · rw [e2 q (by omega) hq,e2 p hp (by omega)];exact hr _ _ (by omega) (by omega) (by omega)
 · rw [e3 q (by omega) hq,e3 p hp (by omega)];exact hl _ _ (by omega) (by omega) (by omega)
 · rw [e4 q (by omega),e4 p hp];exact hr _ _ (by omega) hpq hq
 · by_cases hu1:u<start
   · rw [e1 u hu1]
     by_cases hv1:v<fin
     · rw [e3 v hv hv1];exact hl _ _ hu (by omega) (by omega)
     · rw [e4 v (by omega)];exact hL _ _ hu hu1 (by omega) hv'
   · rw [e2 u (by omega) hu']
     by_cases hv1:v<fin
     · rw [e3 v hv hv1];exact hR _ _ (by omega) (by omega) (by omega) (by omega)
     · rw [e4 v (by omega)];exact hr _ _ (by omega) (by omega) hv'
theorem Kk (d:Array α)(a mid b:Nat)(h1:SortedIn lt a mid d)(h2:SortedIn lt mid b d)(hx:∀ u v,a≤u→u<mid→mid≤v→v<b→lt d[v]! d[u]! =false):SortedIn lt a b d:=by
 intro p q hp hpq hq
 by_cases hq1:q<mid
 · exact h1 _ _ hp hpq hq1
 · by_cases hp1:p<mid
   · exact hx _ _ hp hp1 (by omega) hq
   · exact h2 _ _ (by omega) hpq hq
theorem merged (d1 d2 d3:Array α)(a mid b:Nat)(hm:a≤mid)(hb:mid≤b)(hsz:b≤d1.size)(hx:∀ u v,a≤u→u<mid→mid≤v→v<b→lt d1[v]! d1[u]! =false)
 (p2:PermIn a mid d1 d2) (s2:SortedIn lt a mid d2) (p3:PermIn mid b d2 d3) (s3:SortedIn lt mid b d3):PermIn a b d1 d3∧SortedIn lt a b d3:=by
 have z2:d2.size=d1.size:=p2.1
 refine⟨permIn_trans _ _ _ a b (permIn_mono _ _ a mid a b (Sm _) hb hsz p2) (permIn_mono _ _ mid b a b hm (Sm _) (by omega) p3),Kk d3 a mid b ?_ s3 ?_⟩
 · intro p q hp hpq hq
   rw [p3.2.1 q (by omega),p3.2.1 p (by omega)]
   exact s2 p q hp hpq hq
 · have hx2:∀ v,mid≤v→v<b→∀ u,a≤u→u<mid→lt d2[v]! d2[u]! =false:=fun v hv hv' u hu hu'=>by
    rw [p2.2.1 v (by omega)]
    exact permIn_all d1 d2 a mid (fun y=>lt d1[v]! y=false) (by omega) p2 (fun i h h'=>hx i v h h' hv hv') u hu hu'
   intro u v hu hu' hv hv'
   rw [p3.2.1 u (by omega)]
   exact permIn_all d2 d3 mid b (fun y=>lt y d2[u]! =false) (by omega) p3 (fun i h h'=>hx2 i h h' u hu hu') v hv hv'
inductive Blk (lt:α→α→Bool) (bs n:Nat) (d:Array α):Nat→Prop where
 | stop (a:Nat):n≤a→Blk lt bs n d a
 | go (a:Nat):SortedIn lt a (min (a+bs) n) d→Blk lt bs n d (a+bs)→Blk lt bs n d a
inductive Pre (lt:α→α→Bool) (bs:Nat) (d:Array α):Nat→Prop where
 | zero:Pre lt bs d 0
 | snoc (a:Nat):Pre lt bs d a→SortedIn lt a (a+bs) d→Pre lt bs d (a+bs)
theorem Blk.congr {bs n a:Nat} {d d':Array α} (h:Blk lt bs n d a)(e:∀ i,a≤i→d'[i]! =d[i]!):Blk lt bs n d' a:=by
 induction h with
 | stop a h=>exact .stop a h
 | go a hs _ ih =>
   refine .go a (fun p q hp hpq hq=>?_) (ih fun i hi=>e i (by omega))
   rw [e q (by omega),e p hp]
   exact hs p q hp hpq hq
theorem Pre.congr {bs a:Nat} {d d':Array α} (h:Pre lt bs d a)(e:∀ i,i<a→d'[i]! =d[i]!):Pre lt bs d' a:=by
 induction h with
 | zero=>exact .zero
 | snoc a _ hs ih =>
   refine .snoc a (ih fun i hi=>e i (by omega)) (fun p q hp hpq hq=>?_)
   rw [e q (by omega),e p (by omega)]
   exact hs p q hp hpq hq
theorem Pre.join {bs n a:Nat} {d:Array α} (h:Pre lt bs d a):Blk lt bs n d a→Blk lt bs n d 0:=by
 induction h with
 | zero=>exact id
 | snoc a _ hs ih=>exact fun hb=>ih (.go a (SortedIn.part hs (Sm _) (by omega)) hb)
theorem Blk.head {bs n a:Nat} {d:Array α} (h:Blk lt bs n d a):SortedIn lt a (min (a+bs) n) d:=by
 cases h with
 | stop _ h=>exact fun p q h1 h2 h3=>by omega
 | go _ hs _=>exact hs
theorem Blk.tail {bs n a:Nat} {d:Array α} (h:Blk lt bs n d a):Blk lt bs n d (a+bs):=by
 cases h with
 | stop _ h=>exact .stop _ (by omega)
 | go _ _ ht=>exact ht
theorem wL (hS:SWO lt)(d:Array α)(a m b mid s0 r0 i fin:Nat)(hs0:a≤s0)(hr0:r0≤m)(hs1:mid+m≤s0+b)(hr1:r0≤mid)(hcase:(s0+b=mid+m∧r0=mid)∨(s0=a∧r0=m))
 (hl:SortedIn lt a m d) (hr:SortedIn lt m b d) (h1:s0≤i) (h2:i≤r0) (h3:i+fin=mid+m) (h4:∀ t,s0≤t→t<i→lt d[mid+m-1-t]! d[t]! =false) (h5:∀ t,i≤t→t<r0→lt d[mid+m-1-t]! d[t]! =true) :
 (∀ t u,a≤t→t<i→fin≤u→u<b→lt d[u]! d[t]! =false)∧(∀ t u,i≤t→t<m→m≤u→u<fin→lt d[t]! d[u]! =false):=by
 have le:∀ p q,a≤p→p≤q→q<m→lt d[q]! d[p]! =false:=fun p q hp hpq hq=>by
  by_cases e:p=q
  · rw [e];exact hS.irrefl _
  · exact hl p q hp (by omega) hq
 have re:∀ p q,m≤p→p≤q→q<b→lt d[q]! d[p]! =false:=fun p q hp hpq hq=>by
  by_cases e:p=q
  · rw [e];exact hS.irrefl _
  · exact hr p q hp (by omega) hq
 refine⟨fun t u ht ht' hu hu'=>?_,fun t u ht ht' hu hu'=>?_⟩
 · by_cases hi:s0<i
   · have:=h4 (i-1) (by omega) (by omega)
     rw [show mid+m-1-(i-1)=fin by omega] at this
     exact hS.ntrans _ _ _ (re fin u (by omega) hu hu') (hS.ntrans _ _ _ this (le t (i-1) ht (by omega) (by omega)))
   · rcases hcase with h|h<;>omega
 · by_cases hi:i<r0
   · have:=h5 i (Sm _) hi
     rw [show mid+m-1-i=fin-1 by omega] at this
     exact hS.ntrans _ _ _ (le i t (by omega) ht ht') (hS.ntrans _ _ _ (hS.asymmA this) (re u (fin-1) hu (by omega) (by omega)))
   · rcases hcase with h|h<;>omega
end Go.Proofs.YtjebaagkomejaaaGreatDoor
namespace Go.Proofs.YtjebaagkomejaaaGreatDoor
open Go.RowKit
def repertoire:List Nat:=[32,33,34,35,36,37,38,39,40,41,42,43,44,45,46,47,48,49,50,51,52,53,54,55,56,57,58,59,60,61,62,63,64,65,66,67,68,69,70,71,72,73,74,75,76,77,78,79,80,81,82,83,84,85,86,87,88,89,90,91,92,93,94,95,96,97,98,99,100,101,102,103,104,105,106,107,108,109,110,111,112,113,114,115,116,117,118,119,120,121,122,123,124,125,126,161,162,163,164,165,166,167,169,171,174,176,183,187,189,191,192,193,194,195,196,197,198,199,200,201,202,203,204,205,206,207,209,210,211,212,213,214,216,217,218,219,220,223,224,225,226,227,228,229,230,231,232,233,234,235,236,237,238,239,241,242,243,244,245,246,248,249,250,251,252,338,339,8212,8216,8217,8220,8221,8226,8230,8482,9834]
def idx (r:Int):Int:=if 32≤r∧r≤126 then r-32 else iN repertoire r 0
def AZ:ByteArray:=⟨#[32,33,34,35,36,37,38,39,40,41,42,43,44,45,46,47,48,49,50,51,52,53,54,55,56,57,58,59,60,61,62,63,64,65,66,67,68,69,70,71,72,73,74,75,76,77,78,79,80,81,82,83,84,85,86,87,88,89,90,91,92,93,94,95,96,97,98,99,100,101,102,103,104,105,106,107,108,109,110,111,112,113,114,115,116,117,118,119,120,121,122,123,124,125,126,194,161,194,162,194,163,194,164,194,165,194,166,194,167,194,169,194,171,194,174,194,176,194,183,194,187,194,189,194,191,195,128,195,129,195,130,195,131,195,132,195,133,195,134,195,135,195,136,195,137,195,138,195,139,195,140,195,141,195,142,195,143,195,145,195,146,195,147,195,148,195,149,195,150,195,152,195,153,195,154,195,155,195,156,195,159,195,160,195,161,195,162,195,163,195,164,195,165,195,166,195,167,195,168,195,169,195,170,195,171,195,172,195,173,195,174,195,175,195,177,195,178,195,179,195,180,195,181,195,182,195,184,195,185,195,186,195,187,195,188,197,146,197,147,226,128,148,226,128,152,226,128,153,226,128,156,226,128,157,226,128,162,226,128,166,226,132,162,226,153,170]⟩
theorem yZ:runes AZ=repertoire:=by decide +kernel
theorem jL (r:Int)(w:Sh)(h0:-2147483648≤r)(h1:r≤2147483647) :
 Si Tryz.prog 140 #[.int .i32 r] w fun e w'=>e=.returned (.int .i64 (idx r))∧Below w.heap.size w w':=by
 by_cases ha:32≤r∧r≤126
 · have hi:idx r=r-32:=by unfold idx;rw [if_pos ha]
   obtain⟨a0,a1⟩:=ha
   have HI:=h_ hi
   clear hi
   go_enter Tryz.func140,Tryz.ntmps140
   go_wp2
   go_ret
   rw [HI.out]
   exact⟨rfl,Below.refl _ _⟩
 · have hi:idx r=iN (runes AZ) r 0:=by unfold idx;rw [if_neg ha,yZ]
   have HI:=h_ hi
   clear hi
   rcases(show r<32∨126<r by omega) with hb|hb
   all_goals
    clear ha
    go_enter Tryz.func140,Tryz.ntmps140
    go_wp2_with fail
    refine(ue AZ r _ (by decide +kernel)).mono ?_
    rintro e w1 ⟨rfl,hB⟩
    go_wp2_with fail
    go_ret
    rw [HI.out]
    exact⟨rfl,hB⟩
end Go.Proofs.YtjebaagkomejaaaGreatDoor
