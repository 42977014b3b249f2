/- The contracts of event.lens and event.Len: the lengths of the rows of any event. The contract of event.Len: the number of characters of any event. The contracts of cmp.Or and event.Less: whether an event is ahead of another one. The contract of event.Check: the first error of an event. Maps that a call makes, from int64 to int and from int64 to bool: what they hold, key by key. Documents in memory, and the contract of document.anchored: the first error of the numbers of a comment. -/
import Derived.StillTailTactics
import Derived.Test.YtnlnmbcaongehaaGreatDoorB02
set_option linter.unusedVariables false
set_option linter.unusedSimpArgs false
set_option maxRecDepth 100000
set_option maxHeartbeats 12800000
open Go.Lib renaming hid→h_
open Go renaming World→e_,Value→fb,heap_alloc_last→fe,cell_of_row→ff,Calls→fg
open Go.RowKit renaming Below→fh
open List renaming mem_of_getElem?→fi,getElem?_eq_getElem→fj,drop_length→fk,drop_zero→fm
open Nat renaming le_refl→fo,add_zero→fp,mul_one→fq
open Go.Proofs.Tryz renaming prog→fr,underlying3→ft,underlying154→fu,underlying2→fw
open Array renaming getElem?_eq_some_iff→fx
open Go.Value renaming int→fy,string→fz
open Go.RowKit.Below renaming refl→fA
open Go.World renaming size_alloc→fB,cell?_alloc_lt→fC,ownsMap_made→fD
open Go.Lib renaming compareInt→fE
namespace Go.Proofs.YtnlnmbcaongehaaGreatDoor
open Go.RowKit
structure Ev where
 id:Int
 inn:Int
 out:Int
 region:ByteArray
 kind:Int
 speaker:ByteArray
 at_:Option Addr
 cap:Nat
 rows:List Row
def Ev.enc (x:Ev):List fb:=[.int .i64 x.id,.int .i64 x.inn,.int .i64 x.out,.string x.region,.int .u8 x.kind,.string x.speaker,.slice x.at_ x.rows.length x.cap]
def bM (w:e_)(a:Option Addr)(xs:List Row):Prop:=ab 1 Row.enc Row.lies w a xs
theorem bM.later {w w':e_} {a:Option Addr} {xs:List Row} (h:bM w a xs)(hb:fh w.heap.size w w'):bM w' a xs:=ab.keeps Row.keeps w w' a xs hb h
def Ev.lies (w:e_)(x:Ev):Prop:=bM w x.at_ x.rows
theorem Ev.keeps:Keeps Ev.lies:=fun w w' r hb h=>bM.later h hb
def Ev.fits (x:Ev):Prop:=i64 x.id∧i64 x.inn∧i64 x.out∧x.region.size≤4000000∧0≤x.kind∧x.kind≤255∧x.speaker.size≤4000000∧(∀ r∈x.rows,r.fits)∧x.rows.length≤4000000
def bh (rows:List Row):List Int:=rows.map fun r=>rowLen r.runs
def bU (rows:List Row):Nat→List Int
 | 0=>[]
 | k+1=>bU rows k++[rowLen ((rows[k]?.map Row.runs).getD [])]
theorem dX (rows:List Row):∀ k,(bU rows k).length=k
 | 0=>rfl
 | k+1=>by simp [bU,dX rows k]
theorem zd2 (rows:List Row):∀ k,k≤rows.length→bU rows k=(rows.take k).map fun r=>rowLen r.runs
 | 0,_=>by simp [bU]
 | k+1,h=>by
   rw [bU,zd2 rows k (by omega),List.take_succ_eq_append_getElem (by omega),List.map_append]
   simp [fj (show k<rows.length by omega)]
theorem zcj (rows:List Row):bU rows rows.length=bh rows:=by
 rw [zd2 rows _ (fo _),List.take_length];rfl
theorem zd3 (rows:List Row)(k:Nat)(r:Row)(h:rows[k]? =some r):bU rows (k+1)=bU rows k++[rowLen r.runs]:=by
 rw [bU,h];rfl
theorem Tryz.info3:(fr.info? 3).map (fun i=>(i.zero,i.size,i.bytes))=some (some (.int .i64 0),1,8):=by kernel_rfl
theorem zdX {w w':e_} {B base e size n:Nat} {v:fb} {xs:List fb} (h:w.ownsRow base e size v n xs)(hb:fh B w w')(hB:w.heap.size≤B):w'.ownsRow base e size v n xs:=by
 refine⟨h.1,?_⟩
 rcases h.2 with hn|⟨g,cap,cur,e1,hbase,hgg,rest⟩
 · exact .inl hn
 · refine .inr ⟨g,cap,cur,e1,hbase,?_,rest⟩
   rw [hb.block g (Nat.lt_of_lt_of_le (fx.1 hgg).1 hB)]
   exact hgg
theorem Ints.of_owns {w:e_} {base e:Nat} {v:fb} {zs:List Int} (h:w.ownsRow base e 1 v zs.length (zs.map (fy .i64))):∃ a cap,v=.slice a zs.length cap∧Ints w a zs:=by
 have h':=h
 rcases h.2 with⟨rfl,h0⟩|⟨g,cap,cur,rfl,hb,hg,_⟩
 · exact⟨none,0,by rw [h0],.inl (by cases zs<;>simp_all)⟩
 · refine⟨_,cap,rfl,.inr ⟨g,0,rfl,(fx.1 hg).1,fun i z hz=>⟨fun j v hv=>?_,trivial⟩⟩⟩
   have hi:i<zs.length:=(List.getElem?_eq_some_iff.1 hz).1
   match j,hv with
   | 0,hv =>
     simp at hv
     subst hv
     rw [show 0+i*1+0=i by omega,h'.cellAt i (by omega)]
     simp [hz]
def zkX (rows:List Row)(w:e_)(k:Nat)(v:fb)(wr:e_):Prop :=
 wr.ownsRow w.heap.size 3 1 v (bU rows k).length ((bU rows k).map (fy .i64))∧fh w.heap.size w wr
def ziX (rows:List Row)(w:e_)(e:Ending)(w':e_):Prop:=∃ a c,e=.returned (.slice a rows.length c)∧Ints w' a (bh rows)∧fh w.heap.size w w'
theorem zlm {xs:List Row} {w wr:e_} {v:fb} (hown:wr.ownsRow w.heap.size 3 1 v (bU xs xs.length).length ((bU xs xs.length).map (fy .i64)))(hb:fh w.heap.size w wr):ziX xs w (.returned v) wr:=by
 rw [zcj] at hown
 obtain⟨a',c',rfl,hI⟩:=Ints.of_owns hown
 exact⟨a',c',by simp [bh],hI,hb⟩
theorem zfo (x:Ev)(w:e_)(hE:Env w)(hr:x.lies w)(hf:x.fits) :
 fg fr 158 #[.agg x.enc.toArray] w (ziX x.rows w):=by
 obtain⟨id,inn,out,region,kind,speaker,a,cap,xs⟩:=x
 obtain⟨_,_,_,_,_,_,_,hfx,hl⟩:=hf
 simp only [Ev.lies] at hr hfx hl
 simp only [Ev.enc]
 obtain⟨j0,hj,hy0,hy1,hy2⟩:=info_parts Tryz.info3
 have JI:=h_ hj;have J0:=h_ hy0;have J1:=h_ hy1;have J2:=h_ hy2
 clear hj hy0 hy1 hy2
 go_enter Tryz.func158,Tryz.ntmps158
 go_wp2_with fail
 go_loopw [3,9] (fun v i wr=>∃ k:Nat,k≤xs.length∧i=.int .i64 k∧zkX xs w k v wr) (fun _ i _=>xs.length-(intOf i).toNat)
 case atStart=>exact⟨0,by omega,rfl,e_.ownsRow_nil _ _ _ _,(fA _ _).alloc (fo _) _⟩
 case round =>
  obtain⟨k,hk,rfl,hown,hb⟩:=hrel
  by_cases hlt:k<xs.length
  · obtain⟨b,off,r,rfl,hbl,hx,hc,hok⟩:=(hr.later hb).at_ hlt
    have hfr:=hfx r (fi hx)
    have HL:=h_ (fun w1 h1 h2=>zcI r w1 h1 h2 hfr)
    have hat:=zd3 xs k r hx
    obtain⟨ra,rc,rr⟩:=r
    simp only [Row.enc,Row.lies] at HL hok hat
    have d0:=hc 0 _ rfl
    simp only [fp,fq] at d0
    have hbs:=hb.size
    have HE:=h_ (fun o=>hE.below (hb.alloc hb.size o) (fo _))
    have HOK:=h_ (fun o=>hok.later ((fA wr.heap.size wr).alloc (fo _) o))
    have HO:=h_ (fun(o:Obj) (w1:e_) (h1:fh (wr.heap.size+1) (wr.alloc o) w1)=>zdX (hown.alloc o) h1 (by simp))
    have HB:=h_ (fun(o:Obj) (w1:e_) (h1:fh (wr.heap.size+1) (wr.alloc o) w1)=>bp hb o h1)
    have HAT:=h_ hat
    have hlk:(bU xs k).length≤4000000:=by rw [dX];omega
    generalize rowLen rr=L at *
    clear hc hx hr hown hfx hfr hat hok
    go_wp2_with (first
     | (go_at_call 215;refine(HL.out _ (HE.out _) (HOK.out _)).mono ?_;rintro e w1 ⟨rfl,hb1⟩;simp only [fB] at hb1;have ho1:=h_ (HO.out _ _ hb1);have hbw:=HB.out _ _ hb1;have hbz:=hbw.size)
     | (at_builtin;refine aH _ _ rfl (.tmp 13) (.tmp 16) 229 rfl w.heap.size 3 j0 _ 1 8 Tryz.underlying229 JI.out J0.out J1.out J2.out rfl (by decide) _ _ _ rfl ho1.out _ rfl rfl rfl ?h1 ?h63 ?hb ?hbase ?_))
    case h1=>first|rfl|(intro u hu;simp at hu;subst hu;rfl)
    case h63=>unfold maxLen;omega
    case hb=>omega
    case hbase=>exact hbz
    intro v' w2 hown' hgrow
    have R:zkX xs w (k+1) v' w2:=by
     refine⟨?_,(hbw.alloc hbw.size _).grown hgrow (by simp;omega) (fun j hj=>(ho1.out.lt j hj).1)⟩
     rw [HAT.out]
     simpa using hown'
    clear hown' hgrow ho1
    go_wp2_with fail
    go_roundw
    case rel=>exact⟨k+1,by omega,by go_num,R⟩
    case measure=>simp [intOf];omega
  · obtain rfl:k=xs.length:=by omega
    have HEND:=h_ (zlm hown hb)
    clear hown
    go_wp2_with fail
    go_ret
    exact HEND.out
theorem zfp:∀ (l:List Run)(acc:Int),0≤acc→-1≤dQ l acc∧dQ l acc≤acc+bV l
 | [],acc,h=>by simp only [dQ,bV];omega
 | x::l,acc,h=>by
   have h1:=zh6 x.text
   simp only [dQ,bV]
   split
   · omega
   · have:=zfp l (acc+lenB x.text) (by omega)
     omega
theorem zgR (l:List Run):-1≤rowLen l∧rowLen l≤bV l:=by
 have:=zfp l 0 (by omega)
 unfold rowLen
 omega
def zas:List Int→Int→Int
 | [],acc=>acc
 | n::l,acc=>if n<0 then -1 else zas l (acc+n)
def eG (rows:List Row):Int:=zas (bh rows) (max ((rows.length:Int)-1) 0)
theorem zhf (rows:List Row)(hf:∀ r∈rows,r.fits):∀ z∈bh rows,z≤4000000:=by
 intro z hz
 simp only [bh,List.mem_map] at hz
 obtain⟨r,hr,rfl⟩:=hz
 have h1:=zgR r.runs
 have h2:=(hf r hr).2.2
 omega
theorem zii (x:Ev)(w:e_)(hE:Env w)(hr:x.lies w)(hf:x.fits) :
 fg fr 218 #[.agg x.enc.toArray] w fun e w'=>e=.returned (.int .i64 (eG x.rows))∧fh w.heap.size w w':=by
 have hLn:=fun w1 h1 h2=>zfo x w1 h1 h2 hf
 obtain⟨id,inn,out,region,kind,speaker,a,cap,xs⟩:=x
 obtain⟨_,_,_,_,_,_,_,hfx,hl⟩:=hf
 have hbd:=zhf xs hfx
 simp only [Ev.lies] at hr hfx hl hLn
 simp only [Ev.enc] at hLn ⊢
 have hlen:(bh xs).length=xs.length:=by simp [bh]
 generalize hG:eG xs=G
 unfold eG at hG
 generalize hz:bh xs=zs at *
 have HZ:=h_ hz
 have HG:=h_ hG
 have HLn:=h_ (hLn (w.alloc (.cells #[.int .i64 id,.int .i64 inn,.int .i64 out,.string region,.int .u8 kind,.string speaker,.slice a xs.length cap] 50)) (hE.below ((fA _ _).alloc (fo _) _) (fo _)) (hr.later ((fA _ _).alloc (fo _) _)))
 have HLEN:=h_ hlen
 have HBD:=h_ hbd
 clear hG hLn hlen hr hE hfx hz hbd
 obtain⟨m,hm,hm2,hmle⟩:∃ m:Nat,max ((xs.length:Int)-1) 0=m∧((xs.length:Int)-1<0∧m=0∨(0:Int)≤(xs.length:Int)-1∧(m:Int)=(xs.length:Int)-1)∧m≤4000000:=by
  by_cases h:xs.length=0
  · exact⟨0,by omega,.inl ⟨by omega,rfl⟩,by omega⟩
  · exact⟨xs.length-1,by omega,.inr ⟨by omega,by omega⟩,by omega⟩
 rw [hm] at HG
 have HM:=h_ hm2
 clear hm hm2
 rcases HM.out with⟨h0,hm0⟩|⟨h0,hm0⟩
 all_goals
  have HM0:=h_ hm0
  clear hm0
  go_enter Tryz.func218,Tryz.ntmps218
  go_wp2_with fail
  refine HLn.out.mono ?_
  rintro e w1 ⟨a',c',rfl,hI,hb1⟩
  rw [fB] at hb1
  replace hb1:=h_ (aq hb1)
  rw [HZ.out] at hI
  clear HLn
  go_wp2_with fail
  go_loop [3,14] (fun s i=>∃ (k acc:Nat),k≤zs.length∧i=.int .i64 k∧s=.int .i64 acc∧zas (zs.drop k) acc=G∧acc≤4000000+4000000*k) (fun _ i=>zs.length-(intOf i).toNat)
  case atStart=>exact⟨0,m,by omega,rfl,by have:=HM0.out;go_num,by rw [fm];exact HG.out,by omega⟩
  case round =>
   obtain⟨k,acc,hk,rfl,rfl,hp,hac⟩:=hrel
   have hlx:zs.length≤xs.length:=by have:=HLEN.out;omega
   have hlx2:xs.length≤zs.length:=by have:=HLEN.out;omega
   by_cases hlt:k<zs.length
   · obtain⟨b,off,z,rfl,hbl,hzz,hc,_⟩:=hI.at_ hlt
     have d0:=hc 0 _ rfl
     simp only [fp,fq] at d0
     have hzb:=HBD.out z (fi hzz)
     rw [aZ zs k z hzz] at hp
     simp only [zas] at hp
     have HP:=h_ hp
     clear hp hc hzz hI HG
     by_cases hneg:z<0
     · go_wp2_with fail
       all_goals
        go_ret
        exact⟨ag (by rw [←HP.out,if_pos hneg]),hb1.out⟩
     · have hnn:0≤z:=by omega
       obtain⟨n,rfl⟩:=Int.eq_ofNat_of_zero_le hnn
       rw [if_neg (by omega)] at HP
       have hac2:acc≤4000000+4000000*4000000:=by omega
       clear hneg
       go_wp2_with fail
       all_goals
        go_round
        case rel=>exact⟨k+1,acc+n,by omega,by go_num,by go_num,by have:=HP.out;simpa using this,by omega⟩
        case measure=>simp [intOf];omega
   · obtain rfl:k=zs.length:=by omega
     rw [fk] at hp
     have HP:=h_ hp
     clear hp HG
     go_wp2_with fail
     go_ret
     exact⟨ag (by rw [←HP.out];rfl),hb1.out⟩
def orL:List Int→Int
 | []=>0
 | z::l=>if (z != 0)=true then z else orL l
theorem ziH (a:Option Addr)(cap:Nat)(zs:List Int)(w:e_)(hI:Ints w a zs)(hl:zs.length≤4000000) :
 fg fr 159 #[.slice a zs.length cap] w fun e w'=>e=.returned (.int .i64 (orL zs))∧w=w':=by
 generalize hG:orL zs=G
 have H0:=h_ (show orL (zs.drop 0)=G by rw [fm];exact hG)
 clear hG
 go_enter Tryz.func159,Tryz.ntmps159
 go_wp2_with fail
 go_loop [8] (fun i=>∃ k:Nat,k≤zs.length∧i=.int .i64 k∧orL (zs.drop k)=G) (fun i=>zs.length-(intOf i).toNat)
 case atStart=>exact⟨0,by omega,rfl,H0.out⟩
 case round =>
  obtain⟨k,hk,rfl,hp⟩:=hrel
  by_cases hlt:k<zs.length
  · obtain⟨b,off,z,rfl,hbl,hzz,hc,_⟩:=hI.at_ hlt
    have d0:=hc 0 _ rfl
    simp only [fp,fq] at d0
    rw [aZ zs k z hzz] at hp
    simp only [orL] at hp
    have HP:=h_ hp
    clear hp hc hzz hI H0
    cases hz:z != 0
    · rw [hz,if_neg (by decide)] at HP
      go_wp2_with fail
      go_round
      case rel=>exact⟨k+1,by omega,by go_num,HP.out⟩
      case measure=>simp [intOf];omega
    · rw [hz,if_pos rfl] at HP
      go_wp2_with fail
      go_ret
      exact⟨ag HP.out,rfl⟩
  · obtain rfl:k=zs.length:=by omega
    rw [fk] at hp
    have HP:=h_ hp
    clear hp H0
    go_wp2_with fail
    go_ret
    exact⟨ag (by rw [←HP.out];rfl),rfl⟩
def dh (x y:Ev):Bool:=decide (orL [fE x.inn y.inn,fE x.id y.id]<0)
theorem zjl (x y:Ev)(w:e_):fg fr 88 #[.agg x.enc.toArray,.agg y.enc.toArray] w fun e w'=>e=.returned (.bool (dh x y))∧fh w.heap.size w w':=by
 unfold dh
 obtain⟨id,inn,out,region,kind,speaker,a,cap,xs⟩:=x
 obtain⟨id',inn',out',region',kind',speaker',a',cap',xs'⟩:=y
 simp only [Ev.enc]
 have HC:=h_ (fun p q w=>Tryz.cmp_Compare_int p q w)
 have hb0:∀ o o',fh w.heap.size w ((w.alloc o).alloc o'):=fun o o'=>((fA _ _).alloc (fo _) _).alloc (by simp) _
 have hc1:∀ (cs cs':Array fb) (j:Nat),((w.alloc (.cells cs 50)).alloc (.cells cs' 50)).cell? ⟨w.heap.size,j,none⟩=cs[j]?:=fun cs cs' j=>by
  rw [fC _ _ _ (by simp),ff _ _ j cs 50 (0,0) (fe w _)]
 have hc2:∀ (cs cs':Array fb) (j:Nat),((w.alloc (.cells cs 50)).alloc (.cells cs' 50)).cell? ⟨w.heap.size+1,j,none⟩=cs'[j]?:=fun cs cs' j=>by
  rw [ff _ _ j cs' 50 (0,0) (zdA w _ _)]
 have HB:=h_ (hb0 (.cells #[.int .i64 id,.int .i64 inn,.int .i64 out,.string region,.int .u8 kind,.string speaker,.slice a xs.length cap] 50) (.cells #[.int .i64 id',.int .i64 inn',.int .i64 out',.string region',.int .u8 kind',.string speaker',.slice a' xs'.length cap'] 50))
 have e1:=hc1 #[.int .i64 id,.int .i64 inn,.int .i64 out,.string region,.int .u8 kind,.string speaker,.slice a xs.length cap] #[.int .i64 id',.int .i64 inn',.int .i64 out',.string region',.int .u8 kind',.string speaker',.slice a' xs'.length cap'] 0
 have e2:=hc1 #[.int .i64 id,.int .i64 inn,.int .i64 out,.string region,.int .u8 kind,.string speaker,.slice a xs.length cap] #[.int .i64 id',.int .i64 inn',.int .i64 out',.string region',.int .u8 kind',.string speaker',.slice a' xs'.length cap'] 1
 have e3:=hc2 #[.int .i64 id,.int .i64 inn,.int .i64 out,.string region,.int .u8 kind,.string speaker,.slice a xs.length cap] #[.int .i64 id',.int .i64 inn',.int .i64 out',.string region',.int .u8 kind',.string speaker',.slice a' xs'.length cap'] 0
 have e4:=hc2 #[.int .i64 id,.int .i64 inn,.int .i64 out,.string region,.int .u8 kind,.string speaker,.slice a xs.length cap] #[.int .i64 id',.int .i64 inn',.int .i64 out',.string region',.int .u8 kind',.string speaker',.slice a' xs'.length cap'] 1
 replace e1:=e1.trans (show _=some (fy .i64 id) from rfl)
 replace e2:=e2.trans (show _=some (fy .i64 inn) from rfl)
 replace e3:=e3.trans (show _=some (fy .i64 id') from rfl)
 replace e4:=e4.trans (show _=some (fy .i64 inn') from rfl)
 generalize hW:(w.alloc (.cells #[.int .i64 id,.int .i64 inn,.int .i64 out,.string region,.int .u8 kind,.string speaker,.slice a xs.length cap] 50)).alloc (.cells #[.int .i64 id',.int .i64 inn',.int .i64 out',.string region',.int .u8 kind',.string speaker',.slice a' xs'.length cap'] 50)=W at *
 have HW:=h_ hW
 clear hW hb0 hc1 hc2
 go_enter Tryz.func88,Tryz.ntmps88
 go_wp2_with fail
 rw [HW.out]
 refine wp_region_still_tail 12 (by kernel_rfl) (by kernel_rfl) ?_
 simp only [List.take_succ_cons,List.take_zero,List.drop_succ_cons,fm]
 repeat still_step
 still_call (HC.out _ _ _)
 repeat still_step
 still_call (HC.out _ _ _)
 refine wpStill_nil ?_
 have HI:Hid (∀ w2:e_,Ints (w2.alloc (.cells #[.int .i64 (fE inn inn'),.int .i64 (fE id id')] 3)) (some ⟨w2.heap.size,0,none⟩) [fE inn inn',fE id id']):=h_ (fun w2=>by
  refine .inr ⟨w2.heap.size,0,rfl,by simp,fun i z hz=>⟨fun j v hv=>?_,trivial⟩⟩
  match j,hv with
  | 0,hv =>
    simp at hv
    subst hv
    rw [show 0+i*1+0=i by omega,ff _ _ i _ 3 (0,0) (fe w2 _)]
    match i,hz with
    | 0,hz=>simp at hz;subst hz;rfl
    | 1,hz=>simp at hz;subst hz;rfl)
 have HI2:Hid (Ints ((W.alloc (.cells #[.int .i64 (fE inn inn'),.int .i64 (fE id id')] 3)).drew) (some ⟨W.heap.size,0,none⟩) [fE inn inn',fE id id']):=h_ (HI.out W)
 go_wp2_with fail
 refine(ziH _ _ [fE inn inn',fE id id'] _ HI2.out (by simp)).mono ?_
 rintro e w' ⟨rfl,rfl⟩
 go_wp2_with fail
 go_ret
 exact⟨rfl,by first|exact(HB.out.drew).alloc HB.out.size _|exact(HB.out.alloc HB.out.size _).drew|exact HB.out.alloc HB.out.size _⟩
def dz:List Row→Int
 | []=>0
 | r::l=>if (bD r.runs != 0)=true then bD r.runs else dz l
def zfO (R:Reg)(rows:List Row):Int:=if (dz rows != 0)=true then dz rows else bB R (bh rows)
def eV (x:Ev)(found:Bool):Int :=
 if x.id<1∨1099511627776<x.id∨bY x.inn x.out=false then 2 else if found=false then 6 else if x.kind<1∨4<x.kind then 3 else if ¬ x.speaker.toList=[]∧bW x.speaker=false then 5 else if x.rows.length=0∨4<x.rows.length then 9 else 0
def zaK (x:Ev)(rG:List Reg):Int:=if (eV x (eO rG x.region).2 != 0)=true then eV x (eO rG x.region).2 else zfO (eO rG x.region).1 x.rows
def zbF (R:Reg)(rows:List Row)(k:Nat):Int:=if (dz (rows.drop k) != 0)=true then dz (rows.drop k) else bB R (bh rows)
theorem zbE (R:Reg)(rows:List Row)(k:Nat)(r:Row)(h:rows[k]? =some r):zbF R rows k=if (bD r.runs != 0)=true then bD r.runs else zbF R rows (k+1):=by
 unfold zbF
 rw [aZ rows k r h,dz]
 by_cases he:(bD r.runs != 0)=true
 · rw [if_pos he,if_pos he,if_pos he]
 · rw [if_neg he,if_neg he]
theorem zaT (R:Reg)(rows:List Row):zbF R rows rows.length=bB R (bh rows):=by
 unfold zbF
 rw [fk];rfl
theorem zh7 (k:Int)(h:k<1∨4<k):kindName k=⟨#[]⟩:=by unfold kindName;repeat rw [if_neg (by omega)]
theorem zhg (k:Int)(h0:1≤k)(h:k≤4):¬ (kindName k).toList=[]:=by
 rcases(show k=1∨k=2∨k=3∨k=4 by omega) with rfl|rfl|rfl|rfl<;>decide +kernel
theorem zfs (rG:List Reg)(nm:ByteArray)(hf:∀ r∈rG,r.fits):(eO rG nm).1.fits:=by
 have hd:et.fits:=by simp only [et,Reg.fits,i64];decide
 have hz:aw.fits:=by simp only [aw,Reg.fits,i64];decide
 have key:∀ l:List Reg,(∀ r∈l,r.fits)→(zaH nm l).1.fits:=by
  intro l
  induction l with
  | nil=>intro _;exact hz
  | cons r l ih =>
    intro h
    rw [zaH]
    split
    · exact h r (by simp)
    · exact ih (fun q hq=>h q (by simp [hq]))
 unfold eO
 split
 · exact hd
 · exact key rG hf
theorem ziP (x:Ev)(found:Bool):(eV x found=2∧(x.id<1∨(1≤x.id∧1099511627776<x.id)))∨(eV x found=2∧1≤x.id∧x.id≤1099511627776∧bY x.inn x.out=false) ∨
 (1≤x.id∧x.id≤1099511627776∧bY x.inn x.out=true∧((eV x found=6∧found=false)∨(found=true ∧
  ((eV x found=3∧(x.kind<1∨4<x.kind))∨(1≤x.kind∧x.kind≤4 ∧
   ((eV x found=5∧¬ x.speaker.toList=[]∧bW x.speaker=false)∨((x.speaker.toList=[]∨(¬ x.speaker.toList=[]∧bW x.speaker=true)) ∧
    ((eV x found=9∧(x.rows.length=0∨4<x.rows.length))∨(eV x found=0∧1≤x.rows.length∧x.rows.length≤4))))))))):=by
 unfold eV
 generalize x.rows.length=n
 cases hs:bY x.inn x.out<;>cases found<;>cases hn:bW x.speaker<;>by_cases hp:x.speaker.toList=[]<;>simp [hp]<;>omega
theorem zge (x:Ev)(a:Option Addr)(cap:Nat)(rG:List Reg)(w:e_)(hE:Env w)(hr:x.lies w)(hf:x.fits)(hR:Regs w a rG)(hfr:∀ r∈rG,r.fits)(hlr:rG.length≤4000000) :
 fg fr 87 #[.agg x.enc.toArray,.slice a rG.length cap] w fun e w'=>e=.returned (.int .i64 (zaK x rG))∧fh w.heap.size w w':=by
 have hFind:=fun w1 h1=>zjv a cap rG x.region w1 h1 hlr
 have hRf:=zfs rG x.region hfr
 have hLn:=fun w1 h1 h2=>zfo x w1 h1 h2 hf
 have hfl:=zhf x.rows hf.2.2.2.2.2.2.2.1
 generalize hG:zaK x rG=G
 unfold zaK at hG
 generalize hF:eO rG x.region=F at *
 obtain⟨R,found⟩:=F
 simp only at hG hRf
 have hcs:=ziP x found
 obtain⟨_,_,_,hs1,hk0,hk1,hs2,hfx,hl⟩:=hf
 have hlens:(bh x.rows).length=x.rows.length:=by simp [bh]
 obtain⟨id,inn,out,region,kind,speaker,ra,rc,rows⟩:=x
 simp only [Ev.lies] at hr hfx hl hLn hs1 hs2 hk0 hk1 hlens hfl
 simp only [Ev.enc] at hLn hFind ⊢
 generalize eV ⟨id,inn,out,region,kind,speaker,ra,rc,rows⟩ found=EH at *
 simp only at hG hcs
 have HG:=h_ hG
 generalize hcs0:#[fy .i64 id,.int .i64 inn,.int .i64 out,.string region,.int .u8 kind,.string speaker,.slice ra rows.length rc]=cs at *
 have f0:=aa w cs 50 0 (.int .i64 id) (by rw [←hcs0];rfl)
 have f1:=aa w cs 50 1 (.int .i64 inn) (by rw [←hcs0];rfl)
 have f2:=aa w cs 50 2 (.int .i64 out) (by rw [←hcs0];rfl)
 have f3:=aa w cs 50 3 (.string region) (by rw [←hcs0];rfl)
 have f4:=aa w cs 50 4 (.int .u8 kind) (by rw [←hcs0];rfl)
 have f5:=aa w cs 50 5 (.string speaker) (by rw [←hcs0];rfl)
 have f6:=aa w cs 50 6 (.slice ra rows.length rc) (by rw [←hcs0];rfl)
 have HB:=h_ (fun(w1:e_) (h:fh (w.heap.size+1) (w.alloc (.cells cs 50)) w1)=>aq h)
 have HE:=h_ (fun(w1:e_) (h:fh (w.heap.size+1) (w.alloc (.cells cs 50)) w1)=>hE.below (aq h) (fo _))
 have HR:=h_ (fun(w1:e_) (h:fh (w.heap.size+1) (w.alloc (.cells cs 50)) w1)=>hr.later (aq h))
 have HRg:=h_ (fun(w1:e_) (h:fh (w.heap.size+1) (w.alloc (.cells cs 50)) w1)=>hR.later (aq h))
 have hb0:fh (w.heap.size+1) (w.alloc (.cells cs 50)) (w.alloc (.cells cs 50)):=fA _ _
 have hsz:(w.alloc (.cells cs 50)).heap.size=w.heap.size+1:=fB _ _
 have HFind:=h_ hFind
 have HLn:=h_ hLn
 generalize hW0:w.alloc (.cells cs 50)=W0 at *
 have HW0:=h_ hW0
 have HSZ:=h_ hsz
 have HLENS:=h_ hlens
 have HRF:=h_ hRf
 have HFX:=h_ hfx
 have HCS:=h_ hcs
 clear hW0 hsz hE hr hR hFind hLn hG hcs hfr hF hlens hRf hfx hfl
 go_enter Tryz.func87,Tryz.ntmps87
 subst hcs0
 go_wp2_with fail
 rw [HW0.out]
 refine(HFind.out _ (HRg.out _ hb0)).mono ?_
 rintro e w1 ⟨rfl,hb1⟩
 rw [HSZ.out] at hb1
 clear HW0 HFind
 obtain⟨Rn,Rt,Rh,Rl,Rw,Ra,Rb⟩:=R
 simp only [Reg.enc]
 have hlt1:w.heap.size<w1.heap.size:=by have:=hb1.size;rw [HSZ.out] at this;omega
 have hb1a:Hid (∀ o,fh (w.heap.size+1) W0 (w1.alloc o)):=h_ (fun o=>hb1.alloc (by omega) o)
 have HGo:=h_ (fun(n:Int) (h:EH=n) (h0:(n != 0)=true)=>(show n=G by rw [←HG.out,h,if_pos h0]))
 have HGz:=h_ (fun(h:EH=0)=>(show zfO ⟨Rn,Rt,Rh,Rl,Rw,Ra,Rb⟩ rows=G by rw [←HG.out,h,if_neg (by decide)]))
 clear HG
 generalize hrs:#[fz Rn,.int .i64 Rt,.int .i64 Rh,.int .i64 Rl,.int .i64 Rw,.int .u8 Ra,.bool Rb]=rs at *
 have g0:=aa w1 rs 44 0 (.string Rn) (by rw [←hrs];rfl)
 have g1:=aa w1 rs 44 1 (.int .i64 Rt) (by rw [←hrs];rfl)
 have g2:=aa w1 rs 44 2 (.int .i64 Rh) (by rw [←hrs];rfl)
 have g3:=aa w1 rs 44 3 (.int .i64 Rl) (by rw [←hrs];rfl)
 have g4:=aa w1 rs 44 4 (.int .i64 Rw) (by rw [←hrs];rfl)
 have g5:=aa w1 rs 44 5 (.int .u8 Ra) (by rw [←hrs];rfl)
 have g6:=aa w1 rs 44 6 (.bool Rb) (by rw [←hrs];rfl)
 have hsz1:(w1.alloc (.cells rs 44)).heap.size=w1.heap.size+1:=fB _ _
 have HT1:=h_ (fun(w2:e_) (h:fh (w1.heap.size+1) (w1.alloc (.cells rs 44)) w2)=>(hb1a.out (.cells rs 44)).trans (h.mono (by omega)))
 have HT2:=h_ (fun(w2 w3:e_) (h:fh (w1.heap.size+1) (w1.alloc (.cells rs 44)) w2) (h3:fh w2.heap.size w2 w3)=>h.trans (h3.mono (by have:=h.size;omega)))
 have hc1:fh (w1.heap.size+1) (w1.alloc (.cells rs 44)) (w1.alloc (.cells rs 44)):=fA _ _
 have hd1:fh (w.heap.size+1) W0 (w1.alloc (.cells rs 44)):=hb1a.out _
 have HW1s:=h_ hsz1
 have HT1b:=HT1
 clear hsz1
 generalize hW1:w1.alloc (.cells rs 44)=W1 at *
 have HW1:=h_ hW1
 clear hW1
 subst hrs
 have hsb:=fun w2=>zhM inn out w2
 have hkb:=fun w2=>zeM kind w2 hk0 hk1
 have hnb:=fun w2=>zaU speaker w2 hs2
 generalize bY inn out=SP at *
 generalize bW speaker=NB at *
 have HS:=h_ hsb
 have HK:=h_ hkb
 have HN:=h_ hnb
 clear hsb hkb hnb
 rcases HCS.out with⟨he,hi|⟨hi0,hi⟩⟩|⟨he,hi0,hi1,hsp⟩|⟨hi0,hi1,hsp,⟨he,rfl⟩|⟨rfl,⟨he,hk⟩|⟨hkk0,hkk1,⟨he,hsq,hnm⟩|⟨hsq,⟨he,hn⟩|⟨he,hn0,hn1⟩⟩⟩⟩⟩
 · have HHE:=h_ he
   clear he HCS
   go_wp2_with fail
   rw [HW1.out]
   go_ret
   exact⟨ag (HGo.out _ HHE.out rfl),HB.out _ hd1⟩
 · have HHE:=h_ he
   clear he HCS
   go_wp2_with fail
   rw [HW1.out]
   go_ret
   exact⟨ag (HGo.out _ HHE.out rfl),HB.out _ hd1⟩
 · have HHE:=h_ he
   subst hsp
   clear he HCS
   go_wp2_with fail
   rw [HW1.out]
   refine(HS.out _).mono ?_
   rintro e w2 ⟨rfl,hb2⟩
   have hc2:=HT2.out _ _ hc1 hb2
   have hd2:=HT1.out _ hc2
   go_wp2_with fail
   go_ret
   exact⟨ag (HGo.out _ HHE.out rfl),HB.out _ hd2⟩
 all_goals
  have HHE:=h_ he
  subst hsp
  clear he HCS
  go_wp2_with fail
  rw [HW1.out]
  refine(HS.out _).mono ?_
  rintro e w2 ⟨rfl,hb2⟩
  have hc2:=HT2.out _ _ hc1 hb2
  have hd2:=HT1.out _ hc2
  clear hb2
 · go_wp2_with fail
   go_ret
   exact⟨ag (HGo.out _ HHE.out rfl),HB.out _ hd2⟩
 · rw [zh7 kind hk] at HK
   clear hk
   go_wp2_with fail
   refine(HK.out _).mono ?_
   rintro e w3 ⟨rfl,hb3⟩
   have hc3:=HT2.out _ _ hc2 hb3
   have hd3:=HT1.out _ hc3
   go_wp2_with fail
   go_ret
   exact⟨ag (HGo.out _ HHE.out rfl),HB.out _ hd3⟩
 all_goals
  have hkn:=zhg kind hkk0 hkk1
  clear hkk0 hkk1
  generalize kindName kind=KN at *
  have hkn2:KN.toList.isEmpty=false:=by simpa using hkn
  go_wp2_with fail
  refine(HK.out _).mono ?_
  rintro e w3 ⟨rfl,hb3⟩
  have hc3:=HT2.out _ _ hc2 hb3
  have hd3:=HT1.out _ hc3
  clear hb3
 · subst hnm
   have hsq2:speaker.toList.isEmpty=false:=by simpa using hsq
   go_wp2_with fail
   refine(HN.out _).mono ?_
   rintro e w4 ⟨rfl,rfl⟩
   go_wp2_with fail
   go_ret
   exact⟨ag (HGo.out _ HHE.out rfl),HB.out _ hd3⟩
 · rcases hn with hn|hn<;>rcases hsq with hsq|⟨hsq,rfl⟩
   · have hsq2:speaker.toList.isEmpty=true:=by simpa using hsq
     go_wp2_with fail
     go_ret
     exact⟨ag (HGo.out _ HHE.out rfl),HB.out _ hd3⟩
   · have hsq2:speaker.toList.isEmpty=false:=by simpa using hsq
     go_wp2_with (go_at_call 150;refine(HN.out _).mono ?_;rintro e w4 ⟨rfl,rfl⟩)
     go_ret
     exact⟨ag (HGo.out _ HHE.out rfl),HB.out _ hd3⟩
   · have hsq2:speaker.toList.isEmpty=true:=by simpa using hsq
     have t0:((rows.length:Int)==0)=false:=by rw [beq_eq_false_iff_ne];omega
     have t1:¬ rows=[]:=by rintro rfl;simp at hn
     go_wp2_with fail
     go_ret
     exact⟨ag (HGo.out _ HHE.out rfl),HB.out _ hd3⟩
   · have hsq2:speaker.toList.isEmpty=false:=by simpa using hsq
     have t0:((rows.length:Int)==0)=false:=by rw [beq_eq_false_iff_ne];omega
     have t1:¬ rows=[]:=by rintro rfl;simp at hn
     go_wp2_with (go_at_call 150;refine(HN.out _).mono ?_;rintro e w4 ⟨rfl,rfl⟩)
     go_ret
     exact⟨ag (HGo.out _ HHE.out rfl),HB.out _ hd3⟩
 · have HGG:=h_ (HGz.out HHE.out)
   clear HGo HGz HHE HS HK hb1a HW1 hlr HRg hc1 hd1 hc2 hd2 hb0 hb1
   have t0:((rows.length:Int)==0)=false:=by rw [beq_eq_false_iff_ne];omega
   have t1:¬ rows=[]:=by rintro rfl;simp at hn0
   rcases hsq with hsq|⟨hsq,rfl⟩
   · have hsq2:speaker.toList.isEmpty=true:=by simpa using hsq
     go_wp2_with fail
     clear hkn hkn2 hsq hsq2 t0 t1 HN
     go_loopw [66] (fun i wr=>∃ k:Nat,k≤rows.length∧i=.int .i64 k∧zbF ⟨Rn,Rt,Rh,Rl,Rw,Ra,Rb⟩ rows k=G∧fh (w1.heap.size+1) W1 wr) (fun i _=>rows.length-(intOf i).toNat)
     case atStart=>exact⟨0,by omega,rfl,by rw [←HGG.out];rfl,hc3⟩
     case round =>
      obtain⟨k,hk,rfl,hp,hb⟩:=hrel
      have hdd:=HT1.out _ hb
      clear hc3 hd3 HGG
      by_cases hlt:k<rows.length
      · obtain⟨b,off,r,rfl,hbl,hx,hc,hok⟩:=(HR.out _ hdd).at_ hlt
        have hfr:=HFX.out r (fi hx)
        have HC:=h_ (fun w1 h1 h2=>zeg r w1 h1 h2 hfr)
        rw [zbE _ rows k r hx] at hp
        obtain⟨qa,qc,rr⟩:=r
        simp only [Row.enc,Row.lies] at HC hok hp
        have d0:=hc 0 _ rfl
        simp only [fp,fq] at d0
        have hbs:=hb.size
        have HOK:=h_ (fun o=>hok.later ((fA wr.heap.size wr).alloc (fo _) o))
        have HP:=h_ hp
        have HA:=h_ (fun(o:Obj)=>(HT2.out _ _ hb ((fA wr.heap.size wr).alloc (fo _) o)))
        clear hc hx hfr hok hp
        generalize bD rr=E at *
        cases hE:E != 0
        · have hE0:E=0:=by simpa using hE
          subst hE0
          go_wp2_with (go_at_call 156;refine(HC.out _ (HE.out _ (HT1.out _ (HA.out _))) (HOK.out _)).mono ?_;rintro e w5 ⟨rfl,hb5⟩;have hc5:=HT2.out _ _ (HA.out _) hb5;clear hb5)
          go_roundw
          case rel=>exact⟨k+1,by omega,by go_num,by rw [←HP.out];rfl,hc5⟩
          case measure=>simp [intOf];omega
        · rw [hE] at HP
          go_wp2_with (go_at_call 156;refine(HC.out _ (HE.out _ (HT1.out _ (HA.out _))) (HOK.out _)).mono ?_;rintro e w5 ⟨rfl,hb5⟩;have hc5:=HT2.out _ _ (HA.out _) hb5;clear hb5)
          go_ret
          exact⟨ag (by rw [←HP.out];rfl),HB.out _ (HT1.out _ hc5)⟩
      · obtain rfl:k=rows.length:=by omega
        rw [zaT] at hp
        have HPl:=h_ (fun(a:Option Addr) (c:Nat) (w:e_) (hI:Ints w a (bh rows))=>zcP ⟨Rn,Rt,Rh,Rl,Rw,Ra,Rb⟩ a c (bh rows) w HRF.out hI (by rw [HLENS.out];omega))
        simp only [hp,HLENS.out,Reg.enc] at HPl
        clear hp HT1 HFX HRF hi0 hi1 hn0 hn1
        have hdd0:=hdd
        have hbD:fh (w1.heap.size+1) W1 wr.drew:=hb.drew
        have hdD:fh (w.heap.size+1) W0 wr.drew:=hdd.drew
        have hx0:w.heap.size<wr.heap.size:=by have:=hdd0.size;rw [HSZ.out] at this;omega
        have hx1:w1.heap.size<wr.heap.size:=by have:=hb.size;have h9:=HW1s.out;omega
        go_wp2_with fail
        go_region_with (first
         | (go_at_call 158;refine(HLn.out _ (HE.out _ hdD) (HR.out _ hdD)).mono ?_;rintro e w6 ⟨a',c',rfl,hI,hb6⟩;have hc6:=HT2.out _ _ hbD hb6;have hd6:=HT1b.out _ hc6;clear hb6)
         | (go_at_call 157;refine(HPl.out _ _ _ hI).mono ?_;rintro e w7 ⟨v,rfl,hb7⟩;have hc7:=HT2.out _ _ hc6 hb7;have hd7:=HT1b.out _ hc7;clear hb7))
        all_goals
         go_wp2_with fail
         go_ret
         exact⟨ag rfl,HB.out _ hd7⟩
   · have hsq2:speaker.toList.isEmpty=false:=by simpa using hsq
     go_wp2_with (go_at_call 150;refine(HN.out _).mono ?_;rintro e w4 ⟨rfl,rfl⟩)
     clear hkn hkn2 hsq hsq2 t0 t1 HN
     go_loopw [66] (fun i wr=>∃ k:Nat,k≤rows.length∧i=.int .i64 k∧zbF ⟨Rn,Rt,Rh,Rl,Rw,Ra,Rb⟩ rows k=G∧fh (w1.heap.size+1) W1 wr) (fun i _=>rows.length-(intOf i).toNat)
     case atStart=>exact⟨0,by omega,rfl,by rw [←HGG.out];rfl,hc3⟩
     case round =>
      obtain⟨k,hk,rfl,hp,hb⟩:=hrel
      have hdd:=HT1.out _ hb
      clear hc3 hd3 HGG
      by_cases hlt:k<rows.length
      · obtain⟨b,off,r,rfl,hbl,hx,hc,hok⟩:=(HR.out _ hdd).at_ hlt
        have hfr:=HFX.out r (fi hx)
        have HC:=h_ (fun w1 h1 h2=>zeg r w1 h1 h2 hfr)
        rw [zbE _ rows k r hx] at hp
        obtain⟨qa,qc,rr⟩:=r
        simp only [Row.enc,Row.lies] at HC hok hp
        have d0:=hc 0 _ rfl
        simp only [fp,fq] at d0
        have hbs:=hb.size
        have HOK:=h_ (fun o=>hok.later ((fA wr.heap.size wr).alloc (fo _) o))
        have HP:=h_ hp
        have HA:=h_ (fun(o:Obj)=>(HT2.out _ _ hb ((fA wr.heap.size wr).alloc (fo _) o)))
        clear hc hx hfr hok hp
        generalize bD rr=E at *
        cases hE:E != 0
        · have hE0:E=0:=by simpa using hE
          subst hE0
          go_wp2_with (go_at_call 156;refine(HC.out _ (HE.out _ (HT1.out _ (HA.out _))) (HOK.out _)).mono ?_;rintro e w5 ⟨rfl,hb5⟩;have hc5:=HT2.out _ _ (HA.out _) hb5;clear hb5)
          go_roundw
          case rel=>exact⟨k+1,by omega,by go_num,by rw [←HP.out];rfl,hc5⟩
          case measure=>simp [intOf];omega
        · rw [hE] at HP
          go_wp2_with (go_at_call 156;refine(HC.out _ (HE.out _ (HT1.out _ (HA.out _))) (HOK.out _)).mono ?_;rintro e w5 ⟨rfl,hb5⟩;have hc5:=HT2.out _ _ (HA.out _) hb5;clear hb5)
          go_ret
          exact⟨ag (by rw [←HP.out];rfl),HB.out _ (HT1.out _ hc5)⟩
      · obtain rfl:k=rows.length:=by omega
        rw [zaT] at hp
        have HPl:=h_ (fun(a:Option Addr) (c:Nat) (w:e_) (hI:Ints w a (bh rows))=>zcP ⟨Rn,Rt,Rh,Rl,Rw,Ra,Rb⟩ a c (bh rows) w HRF.out hI (by rw [HLENS.out];omega))
        simp only [hp,HLENS.out,Reg.enc] at HPl
        clear hp HT1 HFX HRF hi0 hi1 hn0 hn1
        have hdd0:=hdd
        have hbD:fh (w1.heap.size+1) W1 wr.drew:=hb.drew
        have hdD:fh (w.heap.size+1) W0 wr.drew:=hdd.drew
        have hx0:w.heap.size<wr.heap.size:=by have:=hdd0.size;rw [HSZ.out] at this;omega
        have hx1:w1.heap.size<wr.heap.size:=by have:=hb.size;have h9:=HW1s.out;omega
        go_wp2_with fail
        go_region_with (first
         | (go_at_call 158;refine(HLn.out _ (HE.out _ hdD) (HR.out _ hdD)).mono ?_;rintro e w6 ⟨a',c',rfl,hI,hb6⟩;have hc6:=HT2.out _ _ hbD hb6;have hd6:=HT1b.out _ hc6;clear hb6)
         | (go_at_call 157;refine(HPl.out _ _ _ hI).mono ?_;rintro e w7 ⟨v,rfl,hb7⟩;have hc7:=HT2.out _ _ hc6 hb7;have hd7:=HT1b.out _ hc7;clear hb7))
        all_goals
         go_wp2_with fail
         go_ret
         exact⟨ag rfl,HB.out _ hd7⟩
end Go.Proofs.YtnlnmbcaongehaaGreatDoor
namespace Go.Proofs.YtnlnmbcaongehaaGreatDoor
open Go.RowKit Go.Maps
def aA {α:Type} (xs:List α):Nat→Option α
 | 0=>none
 | k+1=>xs[k]?
theorem zlE:Keyed fr 2:=int_keyed fw
theorem zmD (w:e_):(zeroValue 3).run fr w=.ok (.int .i64 0) w:=by kernel_rfl
theorem isKey (z:Int):WideAt.IsKeyLit (.int .i64 z):=trivial
theorem wf64 {z:Int} (h:i64 z):(Lit.int .i64 z).wf=true:=WalkArith.wf_i64 h
theorem key2 {z:Int} (h:i64 z):keyOf fr 2 (.int .i64 z)=some (.int .i64 z):=keyOf_int_mk fw (wf64 h)
theorem al {P:Program} (w:e_) {ops:Array Oper} {rest:List Oper} {o:Oper} {a:Act} {Q:Exit→Act→e_→Prop}
 (hg:o.guard=none) (m x:Operand) (t:TypeId) (c:Bool) (hop:o.op=Op.lookup t m x c) (mv key v:fb) (hm:a.eval m=mv) (hx:a.eval x=key)
 (hrun:(Instr.lookup t mv key c).run P w=.ok v w) (hK:wpList P ops Q rest (a.put o.dst v) w):wpList P ops Q (o::rest) a w:=by
 refine wpList_plain hg fun K' hK'=>?_
 unfold Oper.wp
 simp [execOp,hop,hm,hx,hrun,Result.andThen]
 exact hK' _ _ hK
def IMap (w:e_)(b n:Nat)(f:Int→Option Nat):Prop:=∃ D:DataW Unit,w.ownsMap fr 2 (plainElem fr 3) b n D ∧
 ∀ z,Maps.has D (.int .i64 z)=(f z).isSome∧D.atKey (.int .i64 z) (.lit (.int .i64 0))=.lit (.int .i64 ((f z).getD 0:Nat))
theorem IMap.made (w:e_):IMap (w.alloc (.map #[] 0)) w.heap.size 0 (fun _=>none) :=
 ⟨_,fD _ _ _ _,fun z=>⟨rfl,rfl⟩⟩
theorem IMap.lt {w:e_} {b n:Nat} {f:Int→Option Nat} (h:IMap w b n f):b<w.heap.size:=by
 obtain⟨D,h,_⟩:=h;exact h.lt
theorem zbL {H:Type} {P:Program} {k:TypeId} {R:fb→Option (DataW H × List MemPlace)} {w w':e_} {b n B:Nat} {D:DataW H} (h:w.ownsMap P k R b n D)(hb:fh B w w')(hB:b<B):w'.ownsMap P k R b n D:=by
 obtain⟨es,clock,h1,r⟩:=h
 exact⟨es,clock,(hb.block b hB).trans h1,r⟩
theorem IMap.below {w w':e_} {b n B:Nat} {f:Int→Option Nat} (h:IMap w b n f)(hb:fh B w w')(hB:b<B):IMap w' b n f:=by
 obtain⟨D,h,r⟩:=h
 exact⟨D,zbL h hb hB,r⟩
theorem IMap.look {w:e_} {b n:Nat} {f:Int→Option Nat} (h:IMap w b n f) {z:Int} (hz:i64 z) :
 (Instr.lookup 154 (.map (some b)) (.int .i64 z) true).run fr w=.ok (.tuple #[.int .i64 ((f z).getD 0:Nat),.bool (f z).isSome]) w:=by
 obtain⟨D,h,r⟩:=h
 obtain⟨v,ps,hrun,hv⟩:=h.look_ok zlE fu (zmD w) (plainElem_int ft (by decide)) (key2 hz)
 rw [(r z).2] at hv
 obtain⟨c,rfl,hc,_⟩:=plainElem_int_inv ft hv
 simp only [Prod.mk.injEq,DataW.lit.injEq,Lit.int.injEq,true_and] at hc
 rw [hrun,(r z).1,←hc.1]
theorem IMap.put {w:e_} {b n:Nat} {f:Int→Option Nat} (h:IMap w b n f) {z:Int} (hz:i64 z)(hn:n<maxLen)(v:Nat)(hv:i64 v) :
 ∃ w',(Instr.mapUpdate 154 (.map (some b)) (.int .i64 z) (.int .i64 v)).run fr w=.ok () w'∧IMap w' b (n+1) (fun y=>if y=z then some v else f y)∧w.grownBy w' (some b):=by
 obtain⟨D,h,r⟩:=h
 obtain⟨w',h1,h2,h3⟩:=h.update zlE fu hn (key2 hz) (plainElem_int ft (wf64 hv))
 refine⟨w',h1,⟨_,h2,fun y=>?_⟩,h3⟩
 by_cases hy:y=z
 · subst hy
   simp only [if_true]
   exact⟨has_put_same h.isMap (isKey _) _,atKey_put_same h.isMap (isKey _) _ _⟩
 · simp only [if_neg hy]
   have hne:Lit.int .i64 y≠Lit.int .i64 z:=by simpa using hy
   rw [has_put_other hne,atKey_put_other hne]
   exact r y
def BMap (w:e_)(b n:Nat)(f:Int→Bool):Prop:=∃ D:DataW Unit,w.ownsMap fr 2 (plainElem fr 4) b n D ∧
 ∀ z,D.atKey (.int .i64 z) (.lit (.bool false))=.lit (.bool (f z))
theorem BMap.made (w:e_):BMap (w.alloc (.map #[] 0)) w.heap.size 0 (fun _=>false) :=
 ⟨_,fD _ _ _ _,fun z=>rfl⟩
theorem BMap.lt {w:e_} {b n:Nat} {f:Int→Bool} (h:BMap w b n f):b<w.heap.size:=by
 obtain⟨D,h,_⟩:=h;exact h.lt
theorem BMap.below {w w':e_} {b n B:Nat} {f:Int→Bool} (h:BMap w b n f)(hb:fh B w w')(hB:b<B):BMap w' b n f:=by
 obtain⟨D,h,r⟩:=h
 exact⟨D,zbL h hb hB,r⟩
end Go.Proofs.YtnlnmbcaongehaaGreatDoor
namespace Go.Proofs.YtnlnmbcaongehaaGreatDoor
open Go.RowKit
structure Cm where
 id:Int
 ev:Int
 frm:Int
 til:Int
 author:ByteArray
 text:ByteArray
 done:Bool
 lost:Bool
def Cm.enc (c:Cm):List fb:=[.int .i64 c.id,.int .i64 c.ev,.int .i64 c.frm,.int .i64 c.til,.string c.author,.string c.text,.bool c.done,.bool c.lost]
def Cm.fits (c:Cm):Prop:=i64 c.id∧i64 c.ev∧i64 c.frm∧i64 c.til∧c.author.size≤4000000∧c.text.size≤4000000
structure Doc where
 title:ByteArray
 lA:ByteArray
 rate:Int
 drop:Bool
 last:Int
 ra:Option Addr
 rc:Nat
 rG:List Reg
 ea:Option Addr
 ec:Nat
 evs:List Ev
 ca:Option Addr
 cc:Nat
 cms:List Cm
def Doc.enc (d:Doc):List fb:=[.string d.title,.string d.lA,.int .u8 d.rate,.bool d.drop,.int .i64 d.last,.slice d.ra d.rG.length d.rc,.slice d.ea d.evs.length d.ec,.slice d.ca d.cms.length d.cc]
def bK (w:e_)(a:Option Addr)(xs:List Ev):Prop:=ab 7 Ev.enc Ev.lies w a xs
theorem bK.later {w w':e_} {a:Option Addr} {xs:List Ev} (h:bK w a xs)(hb:fh w.heap.size w w'):bK w' a xs:=ab.keeps Ev.keeps w w' a xs hb h
def zey (w:e_)(a:Option Addr)(xs:List Cm):Prop:=ab 8 Cm.enc Flat w a xs
theorem zey.later {w w':e_} {a:Option Addr} {xs:List Cm} (h:zey w a xs)(hb:fh w.heap.size w w'):zey w' a xs:=ab.keeps Flat.keeps w w' a xs hb h
def Doc.lies (w:e_)(d:Doc):Prop:=Regs w d.ra d.rG∧bK w d.ea d.evs∧zey w d.ca d.cms
theorem Doc.later {w w':e_} {d:Doc} (h:d.lies w)(hb:fh w.heap.size w w'):d.lies w':=⟨h.1.later hb,h.2.1.later hb,h.2.2.later hb⟩
def Doc.fits (d:Doc):Prop:=d.title.size≤4000000∧d.lA.size≤4000000∧0≤d.rate∧d.rate≤255∧i64 d.last∧(∀ r∈d.rG,r.fits)∧d.rG.length≤4000000∧(∀ x∈d.evs,x.fits)∧d.evs.length≤4000000∧(∀ c∈d.cms,c.fits)∧d.cms.length≤4000000
def bw (last:Int)(f:Int→Option Nat)(evs:List Ev)(c:Cm):Int :=
 if c.ev<1∨last<c.ev then 2 else if c.lost then (if c.frm≠0∨c.til≠0 then 2 else 0) else match f c.ev with
  | none=>6
  | some i=>if c.frm<0∨c.til≤c.frm∨eG ((evs[i]?.map Ev.rows).getD [])<c.til then 2 else 0
theorem zcu (last:Int)(f:Int→Option Nat)(evs:List Ev)(c:Cm)(hf:∀ z i,f z=some i→i<evs.length) :
 (bw last f evs c=2∧c.ev<1)∨(bw last f evs c=2∧1≤c.ev∧last<c.ev)∨(1≤c.ev∧c.ev≤last ∧
  ((c.lost=true∧((bw last f evs c=2∧c.frm≠0)∨(bw last f evs c=2∧c.frm=0∧c.til≠0)∨(bw last f evs c=0∧c.frm=0∧c.til=0))) ∨
   (c.lost=false∧((f c.ev=none∧bw last f evs c=6)∨∃ i x,f c.ev=some i∧i<evs.length∧evs[i]? =some x ∧
    ((bw last f evs c=2∧c.frm<0)∨(bw last f evs c=2∧0≤c.frm∧c.til≤c.frm)∨(0≤c.frm∧c.frm<c.til∧((bw last f evs c=2∧eG x.rows<c.til)∨(bw last f evs c=0∧c.til≤eG x.rows)))))))):=by
 unfold bw
 by_cases h1:c.ev<1
 · left;simp [h1]
 right
 by_cases h2:last<c.ev
 · left;simp [h1,h2];omega
 right
 refine⟨by omega,by omega,?_⟩
 rw [if_neg (by omega)]
 cases hl:c.lost
 · right
   refine⟨rfl,?_⟩
   cases hq:f c.ev with
   | none=>left;simp
   | some i =>
     right
     have hi:=hf _ _ hq
     refine⟨i,evs[i],rfl,hi,fj hi,?_⟩
     simp only [fj hi,Option.map_some,Option.getD_some,Bool.false_eq_true,if_false]
     by_cases h3:c.frm<0
     · left;simp [h3]
     right
     by_cases h4:c.til≤c.frm
     · left;simp [h4];omega
     right
     refine⟨by omega,by omega,?_⟩
     by_cases h5:eG evs[i].rows<c.til
     · left;simp [h5]
     · right;rw [if_neg (by omega)];exact⟨rfl,by omega⟩
 · left
   refine⟨rfl,?_⟩
   simp only [if_true]
   by_cases h3:c.frm=0
   · by_cases h4:c.til=0
     · right;right;simp [h3,h4]
     · right;left;simp [h3,h4]
   · left;simp [h3]
theorem zhD {W w':e_} {B b o:Nat} {v:fb} (h:W.cell? ⟨b,o,none⟩=some v)(hB:b<B)(hb:fh B W w'):w'.cell? ⟨b,o,none⟩=some v :=
 (hb.cell (p:=⟨b,o,none⟩) hB).trans h
theorem ah (w:e_)(cs cs':Array fb)(t t':TypeId)(j:Nat)(v:fb)(h:cs[j]? =some v)(w':e_)(hb:fh (w.heap.size+2) ((w.alloc (.cells cs t)).alloc (.cells cs' t')) w'):w'.cell? ⟨w.heap.size,j,none⟩=some v:=by
 refine zhD ?_ (by omega) hb
 rw [fC _ _ _ (by simp),ff _ _ j cs t (0,0) (fe w _),h]
theorem aj (w:e_)(cs cs':Array fb)(t t':TypeId)(j:Nat)(v:fb)(h:cs'[j]? =some v)(w':e_)(hb:fh (w.heap.size+2) ((w.alloc (.cells cs t)).alloc (.cells cs' t')) w'):w'.cell? ⟨w.heap.size+1,j,none⟩=some v:=by
 refine zhD ?_ (by omega) hb
 have:=fe (w.alloc (.cells cs t)) (.cells cs' t')
 rw [fB] at this
 rw [ff _ _ j cs' t' (0,0) this,h]
theorem aR {w w':e_} {o o':Obj} (hb:fh (w.heap.size+2) ((w.alloc o).alloc o') w'):fh w.heap.size w w' :=
 (((fA _ _).alloc (fo _) _).alloc (by simp) _).trans (hb.mono (by omega))
theorem ze9 (d:Doc)(c:Cm)(b n:Nat)(f:Int→Option Nat)(w:e_)(hE:Env w)(hd:bK w d.ea d.evs)(hfd:∀ x∈d.evs,x.fits)(hle:d.evs.length≤4000000)(hc:c.fits)(hM:IMap w b n f)(hf:∀ z i,f z=some i→i<d.evs.length) :
 fg fr 161 #[.agg d.enc.toArray,.agg c.enc.toArray,.map (some b)] w fun e w'=>e=.returned (.int .i64 (bw d.last f d.evs c))∧fh w.heap.size w w':=by
 have hcs:=zcu d.last f d.evs c hf
 generalize bw d.last f d.evs c=G at *
 obtain⟨title,lA,rate,drop,last,ra,rc,rG,ea,ec,evs,ca,cc,cms⟩:=d
 obtain⟨_,hi2,hi3,hi4,_,_⟩:=hc
 obtain⟨id,ev,frm,til,author,text,done,lost⟩:=c
 simp only at hcs hi2 hi3 hi4 hd hfd hf hle
 simp only [Doc.enc,Cm.enc]
 generalize hds:#[fz title,.string lA,.int .u8 rate,.bool drop,.int .i64 last,.slice ra rG.length rc,.slice ea evs.length ec,.slice ca cms.length cc]=ds
 generalize hqs:#[fy .i64 id,.int .i64 ev,.int .i64 frm,.int .i64 til,.string author,.string text,.bool done,.bool lost]=qs
 have f4:=ah w ds qs 27 52 4 (.int .i64 last) (by rw [←hds];rfl)
 have f6:=ah w ds qs 27 52 6 (.slice ea evs.length ec) (by rw [←hds];rfl)
 have g1:=aj w ds qs 27 52 1 (.int .i64 ev) (by rw [←hqs];rfl)
 have g2:=aj w ds qs 27 52 2 (.int .i64 frm) (by rw [←hqs];rfl)
 have g3:=aj w ds qs 27 52 3 (.int .i64 til) (by rw [←hqs];rfl)
 have g7:=aj w ds qs 27 52 7 (.bool lost) (by rw [←hqs];rfl)
 have HB:=h_ (fun(w1:e_) (h:fh (w.heap.size+2) ((w.alloc (.cells ds 27)).alloc (.cells qs 52)) w1)=>aR h)
 have hb0:fh (w.heap.size+2) ((w.alloc (.cells ds 27)).alloc (.cells qs 52)) ((w.alloc (.cells ds 27)).alloc (.cells qs 52)):=fA _ _
 have hsz:((w.alloc (.cells ds 27)).alloc (.cells qs 52)).heap.size=w.heap.size+2:=by simp
 have HLK:=h_ ((hM.below (HB.out _ hb0) hM.lt).look hi2)
 generalize hW0:(w.alloc (.cells ds 27)).alloc (.cells qs 52)=W0 at *
 have HW0:=h_ hW0
 have HSZ:=h_ hsz
 have HD:=h_ hd
 have HFD:=h_ hfd
 clear hW0 hsz hd hfd hf hM
 have hlk:=HLK.out
 rw [←HW0.out] at hlk
 clear HLK
 go_enter Tryz.func161,Tryz.ntmps161
 subst hds
 subst hqs
 rcases hcs with⟨rfl,h1⟩|⟨rfl,h1,h2⟩|⟨h1,h2,⟨rfl,⟨rfl,h3⟩|⟨rfl,rfl,h3⟩|⟨rfl,rfl,rfl⟩⟩|⟨rfl,⟨hq,rfl⟩|⟨i,x,hq,hi,hx,hcs⟩⟩⟩
 · clear hlk
   go_wp2_with fail
   rw [HW0.out]
   go_ret
   exact⟨rfl,HB.out _ hb0⟩
 · clear hlk
   go_wp2_with fail
   rw [HW0.out]
   go_ret
   exact⟨rfl,HB.out _ hb0⟩
 · have h3d:(frm != 0)=true:=by simpa using h3
   clear hlk h3
   go_wp2_with fail
   rw [HW0.out]
   go_ret
   exact⟨rfl,HB.out _ hb0⟩
 · have h3d:(til != 0)=true:=by simpa using h3
   clear hlk h3
   go_wp2_with fail
   rw [HW0.out]
   go_ret
   exact⟨rfl,HB.out _ hb0⟩
 · clear hlk
   go_wp2_with fail
   rw [HW0.out]
   go_ret
   exact⟨rfl,HB.out _ hb0⟩
 · rw [hq] at hlk
   simp only [Option.isSome_none,Option.getD_none] at hlk
   have HLK:=h_ hlk
   clear hq hlk
   go_wp2_with (at_lookup;refine al _ rfl _ _ _ _ rfl _ _ _ rfl rfl HLK.out ?_)
   rw [HW0.out]
   go_ret
   exact⟨rfl,HB.out _ hb0⟩
 · rw [hq] at hlk
   simp only [Option.isSome_some,Option.getD_some] at hlk
   have HLK:=h_ hlk
   clear hlk
   obtain⟨bb,off,x',rfl,hbl,hx',hcx,hok0⟩:=HD.out.at_ hi
   have hok:=Ev.keeps _ _ _ (HB.out _ hb0) hok0
   obtain rfl:x'=x:=Option.some.inj (hx'.symm.trans hx)
   have hfx:=HFD.out x' (fi hx)
   have hb0d:fh (w.heap.size+2) W0 W0.drew:=hb0.drew
   have HLen:=h_ (zii x' W0.drew (hE.below (HB.out _ hb0d) (fo _)) (Ev.keeps _ _ _ ((fA W0.heap.size W0).drew) hok) hfx)
   have hcd:∀ j v,x'.enc[j]? =some v→∀ w1,fh (w.heap.size+2) W0 w1→w1.cell? ⟨bb,off+i*7+j,none⟩=some v:=fun j v hv w1 h=>by
    rw [(HB.out _ h).cell (p:=⟨bb,off+i*7+j,none⟩) hbl]
    exact hcx j v hv
   clear hq hx hx' hcx hok hok0 hfx
   obtain⟨xid,xin,xout,xreg,xkind,xsp,xa,xc,xrows⟩:=x'
   have HCD:=h_ hcd
   simp only [Ev.enc] at HLen hcs HCD
   generalize eG xrows=L at *
   clear hcd
   rcases hcs with⟨rfl,h3⟩|⟨rfl,h3,h4⟩|⟨h3,h4,⟨rfl,h5⟩|⟨rfl,h5⟩⟩
   · have h3d:decide (frm<0)=true:=by simp;omega
     clear HLen hbl
     go_wp2_with (at_lookup;refine al _ rfl _ _ _ _ rfl _ _ _ rfl rfl HLK.out ?_)
     rw [HW0.out]
     go_quiet (fail)
     go_wp2_with fail
     go_ret
     exact⟨rfl,HB.out _ (below_drewN hb0 _)⟩
   · have h3d:decide (frm<0)=false:=by simp;omega
     have h4d:decide (til≤frm)=true:=by simp;omega
     clear HLen hbl
     go_wp2_with (at_lookup;refine al _ rfl _ _ _ _ rfl _ _ _ rfl rfl HLK.out ?_)
     rw [HW0.out]
     go_quiet (fail)
     go_wp2_with fail
     go_ret
     exact⟨rfl,HB.out _ (below_drewN hb0 _)⟩
   · have h3d:decide (frm<0)=false:=by simp;omega
     have h4d:decide (til≤frm)=false:=by simp;omega
     have h5d:decide (L<til)=true:=by simp;omega
     go_wp2_with (at_lookup;refine al _ rfl _ _ _ _ rfl _ _ _ rfl rfl HLK.out ?_)
     rw [HW0.out]
     have d0:=HCD.out 0 _ rfl;have d1:=HCD.out 1 _ rfl;have d2:=HCD.out 2 _ rfl;have d3:=HCD.out 3 _ rfl;have d4:=HCD.out 4 _ rfl;have d5:=HCD.out 5 _ rfl;have d6:=HCD.out 6 _ rfl
     simp only [fp] at d0
     clear HCD HLK HD HFD hE
     go_region_with (go_at_call 218;refine HLen.out.mono ?_;rintro e w1 ⟨rfl,hb1⟩;replace hb1:fh (w.heap.size+2) W0 w1:=hb0d.trans (hb1.mono (by have:=hb0d.size;rw [HSZ.out] at this;exact this)))
     all_goals
      go_wp2_with fail
      go_ret
      exact⟨rfl,HB.out _ hb1⟩
   · have h3d:decide (frm<0)=false:=by simp;omega
     have h4d:decide (til≤frm)=false:=by simp;omega
     have h5d:decide (L<til)=false:=by simp;omega
     go_wp2_with (at_lookup;refine al _ rfl _ _ _ _ rfl _ _ _ rfl rfl HLK.out ?_)
     rw [HW0.out]
     have d0:=HCD.out 0 _ rfl;have d1:=HCD.out 1 _ rfl;have d2:=HCD.out 2 _ rfl;have d3:=HCD.out 3 _ rfl;have d4:=HCD.out 4 _ rfl;have d5:=HCD.out 5 _ rfl;have d6:=HCD.out 6 _ rfl
     simp only [fp] at d0
     clear HCD HLK HD HFD hE
     go_region_with (go_at_call 218;refine HLen.out.mono ?_;rintro e w1 ⟨rfl,hb1⟩;replace hb1:fh (w.heap.size+2) W0 w1:=hb0d.trans (hb1.mono (by have:=hb0d.size;rw [HSZ.out] at this;exact this)))
     all_goals
      go_wp2_with fail
      go_ret
      exact⟨rfl,HB.out _ hb1⟩
end Go.Proofs.YtnlnmbcaongehaaGreatDoor
