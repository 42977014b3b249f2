/- The contract of diff.Invert: the inverses of the changes, in the other order, in memory of the call's own. The contract of the reference's Invert: the inverses of the changes, in the other order. (printed by gen_refinvert.py) Whether two lists of changes are equal: diff.Same and the reference's Same. The contract of diff.fields: where the section has no name, and for any change. The changes between two documents in order lead from the one to the other, and their inverses back; there is none just between equal contents. -/
import Derived.RangeFuncNested
import Derived.RangeFuncLeaves
import Derived.Test.YtnlnmbcaongehaaGreatDoorT05
import Derived.Test.YtnlnmbcaongehaaGreatDoorT02
import Derived.Test.YtnlnmbcaongehaaGreatDoorBase17
import Derived.Test.YtnlnmbcaongehaaGreatDoorBase09
import Derived.Test.YtnlnmbcaongehaaGreatDoorBase08
import Derived.Test.YtnlnmbcaongehaaGreatDoorBase07
import Derived.Test.YtnlnmbcaongehaaGreatDoorBase06
import Derived.Test.YtnlnmbcaongehaaGreatDoorT00
import Derived.Test.YtnlnmbcaongehaaGreatDoorBase03
import Derived.Test.YtnlnmbcaongehaaGreatDoorBase02
import Derived.Test.YtnlnmbcaongehaaGreatDoorBase01
import Derived.Test.YtnlnmbcaongehaaGreatDoorBase00
import Derived.Test.YtnlnmbcaongehaaGreatDoorBase05
import Derived.Test.YtnlnmbcaongehaaGreatDoorBase16
import Derived.Test.YtnlnmbcaongehaaGreatDoorBase12
import Derived.Test.YtnlnmbcaongehaaGreatDoorBase10
import Derived.Test.YtnlnmbcaongehaaGreatDoorBase04
import Derived.Test.YtnlnmbcaongehaaGreatDoorBase11
import Derived.Test.YtnlnmbcaongehaaGreatDoorBase15
import Derived.Test.YtnlnmbcaongehaaGreatDoorBase14
import Derived.Test.YtnlnmbcaongehaaGreatDoorBase13
import Derived.Test.YtnlnmbcaongehaaGreatDoorBase19
import Derived.Test.YtnlnmbcaongehaaGreatDoorT03
import Derived.Test.YtnlnmbcaongehaaGreatDoorT04
set_option linter.unusedVariables false
set_option linter.unusedSimpArgs false
namespace Go.Proofs.YtnlnmbcaongehaaGreatDoor
open Go.RowKit Go.Shelf
attribute [local go_sem] Oper.semAt_some
/-- What Invert hands back. -/
def InvPost (xs : List Chg) (w : World) (e : Ending) (w' : World) : Prop :=
  ∃ (A : Option Addr) (ys : List Chg) (c : Nat), e = .returned (.slice A ys.length c) ∧ ChgAt w' A ys ∧ ys.map Chg.c = invL (xs.map Chg.c) ∧ Below w.heap.size w w'
/-- The memory of the loop: the list's variable o, and the list. -/
def InvI (w : World) (o B : Nat) (xs : List Chg) (pre : List (BackEl xs)) (W : World) : Prop :=
  ∃ v ys, Boxed W o 29 v ∧ InvMem B v ys W ∧ ys.map Chg.c = pre.map (fun p => invC p.1.2.c) ∧ Below w.heap.size w W ∧ B ≤ W.heap.size
theorem InvI.own {w : World} {o B : Nat} {xs : List Chg} (hB : w.heap.size ≤ B) : OwnFrom B (InvI w o B xs) := by
  rintro s X Y row ⟨v, ys, h1, h2, h3, h4, h5⟩ hg hr
  exact ⟨v, ys, boxed_own o 29 (fun (_ : Unit) => v) () X Y row h1 hg (fun r e => (hr r e).2), h2.kept hg (fun r e => (hr r e).2), h3, ownFrom_below (β := Unit) (Nat.le_refl _) hB () X Y row h4 hg hr, Nat.le_trans h5 hg.size⟩
/-- What the assignment of a round lays: the change in a box of its own. -/
def InvAx (w : World) (a : Option Addr) (cap B : Nat) (xs : List Chg) (x : BackEl xs) (a' : Act) (W : World) : Prop :=
  ∃ g v ys, a' = { tmps := #[.slice a xs.length cap, undef, .slice none 0 0, .pointer (some ⟨w.heap.size, 0, none⟩), undef, .pointer (some ⟨g, 0, none⟩), .slice a xs.length cap, .func (.func 118) #[] #[.pointer (some ⟨w.heap.size + 1, 0, none⟩)], .int .i64 x.1.1, .agg x.1.2.enc.toArray, undef, undef, undef, undef, undef, undef, undef, undef, undef, undef, undef, undef, undef, undef, undef, undef, undef, undef, undef, undef, undef, undef, undef, undef, undef, undef, undef, undef, undef, undef, undef, undef, undef, undef, undef, undef, undef], defers := [] } ∧ W.heap[g]? = some (.cells x.1.2.enc.toArray 54 (0, 0)) ∧ B ≤ g ∧ Boxed W w.heap.size 29 v ∧ InvMem B v ys W ∧ v.ownBlock ≠ some g ∧ ∀ y ∈ ys, ¬ y.uses g
theorem InvAx.own {w : World} {a : Option Addr} {cap B : Nat} {xs : List Chg} {x : BackEl xs} {a' : Act} : OwnFrom B (fun (_ : Unit) W => InvAx w a cap B xs x a' W) := by
  rintro _ X Y row ⟨g, v, ys, h0, h1, h2, h3, h4, h5, h6⟩ hg hr
  refine ⟨g, v, ys, h0, (hg.block g (Array.getElem?_eq_some_iff.1 h1).1 (fun e => ?_)).trans h1, h2, boxed_own w.heap.size 29 (fun (_ : Unit) => v) () X Y row h3 hg (fun r e => (hr r e).2), h4.kept hg (fun r e => (hr r e).2), h5, h6⟩
  obtain ⟨ob, ho, hc⟩ := (hr g e.symm).2
  rw [h1] at ho
  cases ho
  cases hc
set_option maxRecDepth 100000 in
set_option maxHeartbeats 3200000 in
/-- The assignment of a round: the change is put into a box. -/
theorem invAssign {l n : Nat} {K : Act → World → Prop} (w : World) (a : Option Addr) (cap : Nat) (xs : List Chg) (i : Int) (Z : List Value) (W : World) (hZ : Z.length = 59) (h1 : ∀ u ∈ Z, u.oneCell' = true)
    (h : K { tmps := #[.slice a xs.length cap, undef, .slice none 0 0, .pointer (some ⟨w.heap.size, 0, none⟩), undef, .pointer (some ⟨W.heap.size, 0, none⟩), .slice a xs.length cap, .func (.func 118) #[] #[.pointer (some ⟨w.heap.size + 1, 0, none⟩)], .int .i64 i, .agg Z.toArray, undef, undef, undef, undef, undef, undef, undef, undef, undef, undef, undef, undef, undef, undef, undef, undef, undef, undef, undef, undef, undef, undef, undef, undef, undef, undef, undef, undef, undef, undef, undef, undef, undef, undef, undef, undef, undef], defers := [] } (W.alloc (.cells Z.toArray 54))) :
    (Code.region 3 (fnOps Tryz.f17 3).toList.toArray false).wpIn (Fence.wide.inRound l) n Tryz.prog (Exit.then K (fun _ _ _ => False)) { tmps := #[.slice a xs.length cap, undef, .slice none 0 0, .pointer (some ⟨w.heap.size, 0, none⟩), undef, undef, .slice a xs.length cap, .func (.func 118) #[] #[.pointer (some ⟨w.heap.size + 1, 0, none⟩)], .int .i64 i, .agg Z.toArray, undef, undef, undef, undef, undef, undef, undef, undef, undef, undef, undef, undef, undef, undef, undef, undef, undef, undef, undef, undef, undef, undef, undef, undef, undef, undef, undef, undef, undef, undef, undef, undef, undef, undef, undef, undef, undef], defers := [] } W := by
  refine roundRegion (fun ⟨_, _, h⟩ => h) (by kernel_rfl) ?_
  have HI := Lib.hid (show (Tryz.prog.info? 54).map (·.size) = some Z.toArray.size by rw [List.size_toArray, hZ]; kernel_rfl)
  have HL := Lib.hid (show Z.toArray.size = 59 by rw [List.size_toArray, hZ])
  have H1C := Lib.hid (one_all h1)
  have HH := Lib.hid h
  clear h h1 hZ
  generalize hO : fnOps Tryz.f17 3 = os
  have hO' : (fnOps Tryz.f17 3).toList = os.toList := by rw [hO]
  conv at hO' => lhs; whnf
  rw [← hO']
  clear hO' hO
  go_wp2_with (first | (refine wpList_store_row rfl 54 (.tmp 5) (.tmp 9) rfl W.heap.size Z.toArray rfl rfl 54 _ (heap_alloc_last W _) HI.out HL.out.symm H1C.out ?_; rw [World.setRow_alloc_new]))
  exact HH.out
set_option maxRecDepth 100000 in
set_option maxHeartbeats 6400000 in
theorem invert_calls (a : Option Addr) (cap : Nat) (xs : List Chg) (w : World) (hx : ChgAt w a xs) (hf : ∀ x ∈ xs, x.fits) (hl : xs.length ≤ 40000000) :
    Calls Tryz.prog 17 #[.slice a xs.length cap] w (InvPost xs w) := by
  refine (callsIn_wide (n := 10)).1 ?_
  refine callsIn_of_wp_marks Tryz.func17 rfl trivial ?_ rfl
  simp only [Tryz.ntmps17, List.size_toArray, List.length_cons, List.length_nil, Nat.reduceAdd, Nat.reduceSub, Array.replicate_succ, Array.replicate_zero, List.push_toArray, List.append_toArray, List.nil_append, List.cons_append]
  gi_wp2
  refine ⟨trivial, (back_in Fence.wide 9 trivial rfl _ _ _ _).mono ?_⟩
  rintro e w' ⟨rfl, rfl⟩
  gi_wp2
  have hB0 : Below w.heap.size w ((w.alloc (.cells #[.slice none 0 0] 29)).alloc (.cells #[.slice a xs.length cap] 29)) := ((Below.refl _ w).alloc (Nat.le_refl _) _).alloc (by simp) _
  have hsz : ((w.alloc (.cells #[.slice none 0 0] 29)).alloc (.cells #[.slice a xs.length cap] 29)).heap.size = w.heap.size + 2 := by simp
  have bO : Boxed ((w.alloc (.cells #[.slice none 0 0] 29)).alloc (.cells #[.slice a xs.length cap] 29)) w.heap.size 29 (.slice none 0 0) := (Boxed.new w 29 _).alloc _
  have bS : Boxed ((w.alloc (.cells #[.slice none 0 0] 29)).alloc (.cells #[.slice a xs.length cap] 29)) (w.heap.size + 1) 29 (.slice a xs.length cap) := by
    have := Boxed.new (w.alloc (.cells #[.slice none 0 0] 29)) 29 (.slice a xs.length cap)
    rw [World.size_alloc] at this
    exact this
  obtain ⟨W0, hW0⟩ : ∃ W0, (w.alloc (.cells #[.slice none 0 0] 29)).alloc (.cells #[.slice a xs.length cap] 29) = W0 := ⟨_, rfl⟩
  try simp only [World.size_alloc]
  rw [hW0] at hB0 hsz bO bS ⊢
  clear hW0
  refine wpIn_rangeFunc_ownH rfl (by decide) (gf := 118) (lb := #[.pointer (some ⟨w.heap.size + 1, 0, none⟩)]) rfl trivial (enters_of Tryz.func118 (by kernel_rfl) rfl)
    (back_stops Fence.wide 9 trivial rfl (by decide) (w.heap.size + 1) cap a xs w W0 hx hl hB0 bS) (fun h k => h.t k) (BackKp.b (w := W0) (by omega) (by omega)) (Below.refl _ _) (fun _ => rfl)
    (InvI w w.heap.size W0.heap.size xs) (fun _ _ _ => False) (InvI.own (by omega)) (fun _ _ _ _ _ hs _ _ => hs)
    ⟨_, [], bO, InvMem.start _ _, rfl, hB0, Nat.le_refl _⟩ (InvAx w a cap W0.heap.size xs) (fun x a' => InvAx.own) ?assign ?body ?done ?stop
  case assign =>
    rintro l pre x W K ⟨v, ys, hb, hm, hc, hbel, hBs⟩ hK
    have ez : ∀ T : Array Value, Array.foldl (fun (t : Array Value) (x : Tmp × Value) => match x with | (p, v) => t.setIfInBounds p v) T ((#[8, 9] : Array Tmp).zip x.encs) = (T.setIfInBounds 8 (.int .i64 x.1.1)).setIfInBounds 9 (.agg x.1.2.enc.toArray) := fun T => by simp [BackEl.encs]
    rw [ez]
    simp only [List.setIfInBounds_toArray, List.set_cons_succ, List.set_cons_zero]
    refine invAssign w a cap xs x.1.1 x.1.2.enc W x.1.2.len (Chg.one _) (hK _ _ ((KeepsOthers.alloc _ _).from _) ⟨(Below.refl _ W).alloc hbel.size _, fun u hu => hu.alloc _⟩ ⟨v, ys, hb.alloc _, hm.later ((Below.refl _ W).alloc (Nat.le_refl _) _), hc, hbel.alloc hbel.size _, by simp; omega⟩ ⟨W.heap.size, v, ys, rfl, World.alloc_heap_new _ _, hBs, hb.alloc _, hm.later ((Below.refl _ W).alloc (Nat.le_refl _) _), fun e => ?_, fun y hy hu => ?_⟩)
    · have := (hm.row e).2
      omega
    · have := Chg.deep.lt y W _ (hm.2 y hy).1 hu
      omega
  case body =>
    rintro l pre x a' W hl' hr ⟨v, ys, hb, hm, hc, hbel, hBs⟩ ⟨g, v2, ys2, rfl, hg, hBg, hb2, hm2, hvg, hyg⟩ hlen
    obtain rfl : v = v2 := by
      have := hb.symm.trans hb2
      cases this
      rfl
    obtain rfl := hm.unique hm2
    have hxl : x.1.2.lies w := by
      obtain ⟨k, hk, he⟩ := List.getElem_of_mem x.2
      obtain ⟨b, off, y, _, _, hy, _, hyl⟩ := hx.at_ hk
      rw [List.getElem?_eq_getElem hk] at hy
      obtain rfl := Option.some.inj hy
      rw [← he]
      exact hyl
    have hys : ys.length = pre.length := by
      have := congrArg List.length hc
      simpa using this
    refine invRound_p (fun ⟨_, _, h⟩ => h) (fun c a a' w h => h) g w.heap.size W0.heap.size x.1.2 v ys W hg (Chg.keeps _ _ _ hbel hxl) (fun b hu => by have := Chg.deep.lt _ _ _ hxl hu; omega) (hf _ x.2) hb hm hvg hyg (by omega) hBg (by omega) [] _ _ _ _ _ _ _ _ _ _ _ _ _ _ _ _ _ _ _ _ _ _ _ _ _ _ _ _ _ _ _ _ _ _ _ _ _ _ _ _ _ _ _ _ _ ?_
    rintro a'' w' ⟨v', z, hz, hb', hm', e1, e2, e3, e4, low, same⟩
    have hbl : Below w.heap.size W w' := ⟨e1, e2, e3, e4, fun k hk => low k (by omega) (by omega) (by have := hbel.size; omega)⟩
    refine ⟨⟨e4, fun k ob _ hk ho => same k ob hk ho⟩, ⟨hbl, fun u hu => ?_⟩, v', ys ++ [z], hb', hm', ?_, hbel.trans hbl, Nat.le_trans hBs e4⟩
    · exact (low (w.heap.size + 1) (by omega) (by omega) hu.lt).trans hu
    · rw [List.map_append, List.map_append, hc, List.map_cons, List.map_nil, hz]
      rfl
  case done =>
    rintro D zs W hD hS ⟨v, ys, hb, hm, hc, hbel, hBs⟩ hK
    obtain ⟨av, cv, rfl, _⟩ := sliceOf_owns (k := 59) (enc := Chg.enc) (Ok := Chg.lies) Chg.len hm.1 (fun z hz => (hm.2 z hz).1)
    have co := hb.cell
    gi_wp2
    refine ⟨by simp, .inl ⟨_, _, rfl, run_takeDeferred hK, ?_⟩⟩
    have hg := grownBy_putObj' W D (.deferred none)
    have hm' : InvMem W0.heap.size (.slice av ys.length cv) ys (W.putObj D (.deferred none)) := hm.kept hg (fun r e => by
      obtain rfl := Option.some.inj e
      exact ⟨_, hK, rfl⟩)
    obtain ⟨A, c, he, hs⟩ := sliceOf_owns (k := 59) (enc := Chg.enc) (Ok := Chg.lies) Chg.len hm'.1 (fun z hz => (hm'.2 z hz).1)
    simp only [Value.slice.injEq, true_and] at he
    obtain ⟨rfl, rfl⟩ := he
    refine ⟨_, results_tmp rfl _ _ _, av, ys, cv, rfl, hs, ?_, hbel.trans (belowK_b (w := w) (Nat.le_refl _) W D _ _ (by omega) hK rfl rfl)⟩
    rw [hc]
    unfold invL
    rw [← List.map_reverse, ← List.map_reverse, ← hS, List.map_map, List.map_map]
    rfl
  case stop =>
    rintro D c pre W _ _ h _
    exact h.elim
end Go.Proofs.YtnlnmbcaongehaaGreatDoor
namespace Go.Proofs.YtnlnmbcaongehaaGreatDoor
open Go.RowKit
set_option maxRecDepth 100000 in
set_option maxHeartbeats 3200000 in
theorem app_r {Q : Exit → Act → World → Prop} (g B n : Nat) (Z xs : List Value) (v : Value) (W : World) (hZ : Z.length = 59) (h1 : ∀ u ∈ Z, u.oneCell' = true) (hg : W.heap[g]? = some (.cells Z.toArray 54 (0, 0))) (hB : B ≤ W.heap.size) (hown : W.ownsRow B 54 59 v n xs) (hn : n ≤ 40000000) (ds : List Deferred) (s0 s1 s2 s4 s6 s7 s8 s9 s10 s11 s12 s13 s14 s15 s16 s17 s18 s19 s20 s21 s22 s23 s24 s25 s26 s27 s28 s29 s30 s31 s32 s33 s34 s35 s36 s37 s38 s39 s40 s41 s42 s43 s44 s45 s46 s47 s48 s49 s50 s51 s52 s53 : Value)
    (h : ∀ (v' : Value) (w2 : World) (y49 y50 y51 y52 : Value), w2.ownsRow B 54 59 v' (n + 1) (xs ++ Z) → (W.alloc (.cells Z.toArray 54)).grownBy w2 v.ownBlock → (v'.ownBlock = v.ownBlock ∨ v'.ownBlock = some (W.heap.size + 1)) → Q .normal { tmps := #[s0, s1, s2, v', s4, .pointer (some ⟨g, 0, none⟩), s6, s7, s8, s9, s10, s11, s12, s13, s14, s15, s16, s17, s18, s19, s20, s21, s22, s23, s24, s25, s26, s27, s28, s29, s30, s31, s32, s33, s34, s35, s36, s37, s38, s39, s40, s41, s42, s43, s44, s45, s46, s47, s48, y49, y50, y51, y52, s53], defers := ds } w2) :
    wpList Tryz.prog (fnOps Tryz.f21 11) Q (fnOps Tryz.f21 11).toList { tmps := #[s0, s1, s2, v, s4, .pointer (some ⟨g, 0, none⟩), s6, s7, s8, s9, s10, s11, s12, s13, s14, s15, s16, s17, s18, s19, s20, s21, s22, s23, s24, s25, s26, s27, s28, s29, s30, s31, s32, s33, s34, s35, s36, s37, s38, s39, s40, s41, s42, s43, s44, s45, s46, s47, s48, s49, s50, s51, s52, s53], defers := ds } W := by
  have HRG := Lib.hid (range_row hg)
  have HZ := Lib.hid hZ
  have HSZ := Lib.hid (show (Tryz.prog.info? 54).map (·.size) = some Z.length by rw [hZ]; kernel_rfl)
  have HOWN := Lib.hid hown
  have H1 := Lib.hid h1
  have HH := Lib.hid h
  have HBB := Lib.hid hB
  have HN := Lib.hid hn
  obtain ⟨j0, jz, hj, hy0, hy1, hy2, hy3⟩ := chgInfo
  have JI := Lib.hid hj; have J0 := Lib.hid hy0; have J1 := Lib.hid hy1; have J2 := Lib.hid hy2; have J3 := Lib.hid hy3
  clear hj hy0 hy1 hy2 hy3 hZ h1 hown h hg hB hn
  generalize hO : fnOps Tryz.f21 11 = os
  have hO' : (fnOps Tryz.f21 11).toList = os.toList := by rw [hO]
  conv at hO' => lhs; whnf
  rw [← hO']
  clear hO'
  go_wp2_with (first
    | (refine wpList_load_mid rfl 54 (.tmp 5) rfl g 0 rfl Z _ HRG.out Tryz.underlying54 rfl HSZ.out ?_)
    | (refine wpList_literal_row rfl 29 54 (.tmp 50) rfl Z rfl j0 jz 59 HZ.out (by decide) (by decide) Tryz.underlying29 JI.out J0.out J1.out ?_)
    | (at_builtin; refine wpList_append_at _ _ rfl (.tmp 49) (.tmp 51) 29 rfl B 54 j0 jz 59 568 Tryz.underlying29 JI.out J0.out J1.out J2.out J3.out (by decide) _ _ _ rfl HOWN.out _ rfl rfl ?hsz ?h1 ?h63 ?hb ?hbase ?_))
  case hsz => simpa using HZ.out
  case h1 => exact H1.out
  case h63 => have := HN.out; unfold maxLen; omega
  case hb => have := HN.out; omega
  case hbase => exact HBB.out
  intro v' w2 hown hgrow hat
  have R := Lib.hid (fun y49 y50 y51 y52 => HH.out v' w2 y49 y50 y51 y52 hown hgrow hat)
  clear hown hgrow hat
  go_wp2_with fail
  exact R.out _ _ _ _
theorem take_inv (xs : List Chg) (j : Nat) (x : Chg) (h : xs[j]? = some x) : ((xs.map Chg.c).reverse.take (xs.length - j)).map invC = ((xs.map Chg.c).reverse.take (xs.length - (j + 1))).map invC ++ [invC x.c] := by
  have hj : j < xs.length := (List.getElem?_eq_some_iff.1 h).1
  rw [show xs.length - j = xs.length - (j + 1) + 1 by omega, List.take_add_one, List.getElem?_reverse (by rw [List.length_map]; omega), List.length_map, show xs.length - 1 - (xs.length - (j + 1)) = j by omega, List.getElem?_map, h, List.map_append]
  rfl
set_option maxRecDepth 100000 in
set_option maxHeartbeats 6400000 in
theorem refInvert_calls (a : Option Addr) (cap : Nat) (xs : List Chg) (w : World) (hx : ChgAt w a xs) (hf : ∀ x ∈ xs, x.fits) (hl : xs.length ≤ 40000000) :
    Calls Tryz.prog 21 #[.slice a xs.length cap] w (InvPost xs w) := by
  have HX := Lib.hid (fun (w1 : World) (h : Below w.heap.size w w1) => SliceOf.keeps Chg.keeps _ _ _ _ h hx)
  have HF := Lib.hid hf
  generalize hQ : InvPost xs w = Q
  have HQ := Lib.hid (fun (v : Value) (ys : List Chg) (w' : World) (h1 : InvMem w.heap.size v ys w') (h2 : ys.map Chg.c = invL (xs.map Chg.c)) (hb : Below w.heap.size w w') => show Q (.returned v) w' from by
    obtain ⟨A, c, rfl, hs⟩ := sliceOf_owns (k := 59) (enc := Chg.enc) (Ok := Chg.lies) Chg.len h1.1 (fun z hz => (h1.2 z hz).1)
    exact hQ ▸ ⟨A, ys, c, rfl, hs, h2, hb⟩)
  clear hQ hx hf
  go_enter Tryz.func21, Tryz.ntmps21
  go_wp2_with fail
  go_loopw [3, 4] (fun v i wr => ∃ (m : Nat) (ys : List Chg), m ≤ xs.length ∧ i = .int .i64 ((m : Int) - 1) ∧ InvMem w.heap.size v ys wr ∧ ys.map Chg.c = ((xs.map Chg.c).reverse.take (xs.length - m)).map invC ∧ Below w.heap.size w wr) (fun _ i _ => (intOf i + 1).toNat)
  case atStart => exact ⟨xs.length, [], Nat.le_refl _, by go_num, InvMem.start _ _, by simp, Below.refl _ _⟩
  case round =>
    obtain ⟨m, ys, hm, rfl, hM, hc, hb⟩ := hrel
    cases m with
    | zero =>
      have HE := Lib.hid (HQ.out u3 ys wr hM (by
        rw [hc, Nat.sub_zero, List.take_of_length_le (by simp)]
        unfold invL
        rw [List.map_reverse]) hb)
      clear hM hc
      go_wp2_with fail
      exact HE.out
    | succ j =>
      rw [show (((j + 1 : Nat) : Int) - 1) = (j : Int) by omega]
      obtain ⟨b, off, x, rfl, hbl, hxj, hcx, hxl⟩ := (HX.out wr hb).at_ (show j < xs.length by omega)
      have hfx := HF.out x (List.mem_of_getElem? hxj)
      have R1 := Lib.hid (show wr.rangeAt b (off + j * 59) x.enc from fun q v e => hcx q v e)
      have HSX := Lib.hid (show (Tryz.prog.info? 54).map (·.size) = some x.enc.length by rw [chgSize, Chg.len])
      have HIX := Lib.hid (show (Tryz.prog.info? 54).map (·.size) = some x.enc.toArray.size by rw [chgSize, List.size_toArray, Chg.len])
      have HLX := Lib.hid (show x.enc.toArray.size = 59 by rw [List.size_toArray, Chg.len])
      have HOX := Lib.hid (one_all (Chg.one x))
      have hj0 : ((j : Int) ≥ 0) = True := by simp
      have HB := Lib.hid hb; have HM := Lib.hid hM; have HC := Lib.hid hc; have HXL := Lib.hid hxl; have HXJ := Lib.hid hxj; have HFX := Lib.hid hfx
      clear hb hM hc hxl hxj hfx hcx
      generalize hxe : x.enc = xe at *
      have HXE := Lib.hid hxe
      clear hxe
      go_upto_region 6 with (first
        | (refine wpList_load_mid rfl 54 (.tmp 15) rfl b (off + j * 59) rfl xe _ R1.out Tryz.underlying54 rfl HSX.out ?_)
        | (refine wpList_store_row rfl 54 (.tmp 5) (.tmp 16) rfl wr.heap.size xe.toArray rfl rfl 54 _ (heap_alloc_last wr _) HIX.out HLX.out.symm HOX.out ?_; rw [World.setRow_alloc_new]))
      have hkA := heap_alloc_last wr (.cells xe.toArray 54)
      have hbA : Below wr.heap.size wr (wr.alloc (.cells xe.toArray 54)) := (Below.refl _ _).alloc (Nat.le_refl _) _
      have hsA : (wr.alloc (.cells xe.toArray 54)).heap.size = wr.heap.size + 1 := World.size_alloc _ _
      generalize wr.alloc (.cells xe.toArray 54) = W at *
      rw [← HXE.out] at hkA
      have hx : x.lies W := Chg.keeps _ _ _ hbA HXL.out
      have hxu : ∀ b, x.uses b → b ≠ wr.heap.size := fun b hu => by have := Chg.deep.lt _ _ _ HXL.out hu; omega
      have hm : InvMem w.heap.size u3 ys W := HM.out.later hbA
      have hvg : u3.ownBlock ≠ some wr.heap.size := fun e => by have := (HM.out.row e).2; omega
      have hyg : ∀ y ∈ ys, ¬ y.uses wr.heap.size := fun y hy hu => by have := Chg.deep.lt y wr _ (HM.out.2 y hy).1 hu; omega
      have hn : ys.length ≤ 40000000 := by
        have := congrArg List.length HC.out
        simp only [List.length_map, List.length_take, List.length_reverse] at this
        omega
      have hbW : Below w.heap.size w W := HB.out.trans (hbA.mono HB.out.size)
      have hBs := HB.out.size
      have hf := HFX.out
      clear HFX R1 HSX HIX HLX HOX HXL HXE hbA
      generalize hgg : wr.heap.size = g at *
      have hg := hkA
      clear hkA
      obtain ⟨sec, id, name, ad, gn, oh, nh, rg, nr, oe, ne, oc, nc⟩ := x
      -- the flags
      refine wp_region_lit (l := (fnOps Tryz.f21 6).toList) ?_
      refine flags_r g _ _ _ ad gn (oh.enc ++ (nh.enc ++ (rg.enc ++ (nr.enc ++ (oe.enc ++ (ne.enc ++ (oc.enc ++ nc.enc))))))) W hg _ _ _ _ _ _ _ _ _ _ _ _ _ _ _ _ _ _ _ _ _ _ _ _ _ _ _ _ _ _ _ _ _ _ _ _ _ _ _ _ _ _ _ _ _ _ _ _ _ _ _ _ _ _ ?_
      intro w1 y0 y1 y2 y3 y4 y5 hg1 hk1 hz1
      generalize hA1 : [Value.int .u8 sec, .int .i64 id, .string name, .bool gn, .bool ad] = A1
      have hg1' : w1.heap[g]? = some (.cells (A1 ++ (oh.enc ++ (nh.enc ++ (rg.enc ++ (nr.enc ++ (oe.enc ++ (ne.enc ++ (oc.enc ++ nc.enc)))))))).toArray 54 (0, 0)) := by rw [← hA1]; exact hg1
      have l1 : A1.length = 5 := by rw [← hA1]; rfl
      -- the headers
      go_upto_region 7 with fail
      refine wp_region_lit (l := (fnOps Tryz.f21 7).toList) ?_
      refine swapHd_r g A1 oh.enc nh.enc (rg.enc ++ (nr.enc ++ (oe.enc ++ (ne.enc ++ (oc.enc ++ nc.enc))))) w1 hg1' l1 rfl rfl (Hd.one _) (Hd.one _) _ _ _ _ _ _ _ _ _ _ _ _ _ _ _ _ _ _ _ _ _ _ _ _ _ _ _ _ _ _ _ _ _ _ _ _ _ _ _ _ _ _ _ _ _ _ _ _ _ _ _ _ _ _ ?_
      intro w2 z0 z1 z2 z3 z4 z5 hg2 hk2 hz2
      have l2 : (A1 ++ (nh.enc ++ oh.enc)).length = 15 := by rw [List.length_append, l1]; rfl
      have hg2' : w2.heap[g]? = some (.cells ((A1 ++ (nh.enc ++ oh.enc)) ++ (rg.enc ++ (nr.enc ++ (oe.enc ++ (ne.enc ++ (oc.enc ++ nc.enc)))))).toArray 54 (0, 0)) := by simp only [List.append_assoc]; exact hg2
      -- the regions
      go_upto_region 8 with fail
      refine wp_region_lit (l := (fnOps Tryz.f21 8).toList) ?_
      refine swapReg_r g _ rg.enc nr.enc (oe.enc ++ (ne.enc ++ (oc.enc ++ nc.enc))) w2 hg2' l2 rfl rfl (Reg.one _) (Reg.one _) _ _ _ _ _ _ _ _ _ _ _ _ _ _ _ _ _ _ _ _ _ _ _ _ _ _ _ _ _ _ _ _ _ _ _ _ _ _ _ _ _ _ _ _ _ _ _ _ _ _ _ _ _ _ ?_
      intro w3 a0 a1 a2 a3 a4 a5 hg3 hk3 hz3
      have l3 : ((A1 ++ (nh.enc ++ oh.enc)) ++ (nr.enc ++ rg.enc)).length = 29 := by rw [List.length_append, l2]; rfl
      have hg3' : w3.heap[g]? = some (.cells (((A1 ++ (nh.enc ++ oh.enc)) ++ (nr.enc ++ rg.enc)) ++ (oe.enc ++ (ne.enc ++ (oc.enc ++ nc.enc)))).toArray 54 (0, 0)) := by rw [List.append_assoc (A1 ++ (nh.enc ++ oh.enc)), List.append_assoc nr.enc]; exact hg3
      have k3 : W.grownBy w3 (some g) := grown_trans hk1 (grown_trans hk2 hk3)
      have xl : ∀ (e : Ev), e.lies W → (∀ b, e.uses b → b ≠ g) → e.lies w3 := fun e he hu => Ev.frame he k3.size fun b hb => k3.block b (Ev.uses_lt he hb) (fun e => hu b hb (Option.some.inj e))
      -- the events
      go_upto_region 9 with fail
      refine wp_region_noPanic ?_
      refine wp_region_held_drew (ops := fnOps Tryz.f21 9) (S := fun _ => True) (by kernel_rfl) trivial (fun _ => ?_)
      refine evs_r (fun _ _ _ _ h => h) g _ (oc.enc ++ nc.enc) oe ne w3 hg3' l3 (xl oe hx.1 fun b hb => hxu b (.inl hb)) (xl ne hx.2 fun b hb => hxu b (.inr hb)) ⟨hf.1.2, hf.1.1⟩ ⟨hf.2.2, hf.2.1⟩ _ _ _ _ _ _ _ _ _ _ _ _ _ _ _ _ _ _ _ _ _ _ _ _ _ _ _ _ _ _ _ _ _ _ _ _ _ _ _ _ _ _ _ _ _ _ _ _ _ _ _ _ _ _ ?_
      intro w4 oe' ne' b0 b1 b2 b3 b4 b5 b6 b7 hoc hnc hol hnl hou hnu hg4 hk4
      refine NoPanic.normal ?_
      have l4 : (((A1 ++ (nh.enc ++ oh.enc)) ++ (nr.enc ++ rg.enc)) ++ (ne'.enc ++ oe'.enc)).length = 43 := by rw [List.length_append, l3]; rfl
      have hg4' : w4.heap[g]? = some (.cells ((((A1 ++ (nh.enc ++ oh.enc)) ++ (nr.enc ++ rg.enc)) ++ (ne'.enc ++ oe'.enc)) ++ (oc.enc ++ (nc.enc ++ []))).toArray 54 (0, 0)) := by rw [List.append_nil, List.append_assoc ((A1 ++ (nh.enc ++ oh.enc)) ++ (nr.enc ++ rg.enc)), List.append_assoc ne'.enc]; exact hg4
      -- the comments
      go_upto_region 10 with fail
      refine wp_region_lit (l := (fnOps Tryz.f21 10).toList) ?_
      refine swapCm_r g _ oc.enc nc.enc [] w4 hg4' l4 rfl rfl (Cm.one _) (Cm.one _) _ _ _ _ _ _ _ _ _ _ _ _ _ _ _ _ _ _ _ _ _ _ _ _ _ _ _ _ _ _ _ _ _ _ _ _ _ _ _ _ _ _ _ _ _ _ _ _ _ _ _ _ _ _ ?_
      intro w5 d0 d1 d2 d3 d4 d5 hg5 hk5 hz5
      have k5 : W.grownBy w5 (some g) := grown_trans k3 (grown_trans hk4 hk5)
      obtain ⟨z, hz⟩ : ∃ z : Chg, z = ⟨sec, id, name, gn, ad, nh, oh, nr, rg, ne', oe', nc, oc⟩ := ⟨_, rfl⟩
      have hg5' : w5.heap[g]? = some (.cells z.enc.toArray 54 (0, 0)) := by
        rw [hg5, hz, ← hA1]
        simp only [Chg.enc, List.append_assoc, List.append_nil, List.cons_append, List.nil_append]
      have hzc : z.c = invC (Chg.c ⟨sec, id, name, ad, gn, oh, nh, rg, nr, oe, ne, oc, nc⟩) := by
        rw [hz]
        simp only [Chg.c, invC, hoc, hnc]
      have s3 : W.heap.size ≤ w3.heap.size := k3.size
      have el : ∀ (e : Ev), e.lies w4 → (∀ b, e.uses b → w3.heap.size ≤ b) → e.lies w5 := fun e he hu => Ev.frame he hk5.size fun b hb => hk5.block b (Ev.uses_lt he hb) (fun e => by have := hu b hb; have := Option.some.inj e; omega)
      have hzl : z.lies w5 := by rw [hz]; exact ⟨el ne' hnl hnu, el oe' hol hou⟩
      have hzu : ∀ b, z.uses b → W.heap.size ≤ b := fun b hb => by
        rw [hz] at hb
        rcases hb with hb | hb
        · exact Nat.le_trans s3 (hnu b hb)
        · exact Nat.le_trans s3 (hou b hb)
      have hm5 : InvMem w.heap.size u3 ys w5 := hm.aside k5.size (Aside.of k5) hvg hyg
      -- the list
      go_upto_region 11 with fail
      refine wp_region_lit (l := (fnOps Tryz.f21 11).toList) ?_
      refine app_r g w.heap.size ys.length z.enc (ys.flatMap Chg.enc) u3 w5 z.len (Chg.one z) hg5' (by have := k5.size; omega) hm5.1 hn _ _ _ _ _ _ _ _ _ _ _ _ _ _ _ _ _ _ _ _ _ _ _ _ _ _ _ _ _ _ _ _ _ _ _ _ _ _ _ _ _ _ _ _ _ _ _ _ _ _ _ _ _ ?_
      intro v' w6 e49 e50 e51 e52 hown hgr hv'
      have hm6 : InvMem w.heap.size v' (ys ++ [z]) w6 := hm5.app hzl (fun b hb => ⟨fun e => by have := (hm.row e).2; have := hzu b hb; omega, by have := hzu b hb; omega⟩) hown hgr hv'
      have hsz : (w5.alloc (.cells z.enc.toArray 54)).heap.size = w5.heap.size + 1 := World.size_alloc _ _
      have hs6 := hgr.size
      have hb6 : Below w.heap.size w w6 := ⟨hgr.os.trans (k5.os.trans hbW.os), hgr.tape.trans (k5.tape.trans hbW.tape), hgr.output.trans (k5.output.trans hbW.output), by have := hbW.size; have := k5.size; omega, fun k hk => by
        have hkW : k < W.heap.size := by have := hbW.size; omega
        refine (hgr.block k (by have := k5.size; omega) (fun e => ?_)).trans ((Below.heap_alloc _ _ _ (by have := k5.size; omega)).trans ((k5.block k hkW (fun e => ?_)).trans (hbW.block k hk)))
        · have := (hm.row e.symm).1
          omega
        · have := Option.some.inj e
          have := HB.out.size
          omega⟩
      have HM6 := Lib.hid hm6
      have HB6 := Lib.hid hb6
      have HC6 := Lib.hid (show (ys ++ [z]).map Chg.c = ((xs.map Chg.c).reverse.take (xs.length - j)).map invC from by rw [take_inv xs j _ HXJ.out, List.map_append, HC.out, List.map_cons, List.map_nil, hzc])
      clear hm6 hb6 hm5 hgr hown hv' k5 k3 hk1 hk2 hk3 hk4 hk5 hg hg1 hg2 hg3 hg4 hg5 hg1' hg2' hg3' hg4' hg5' hzl hzu hzc xl el hol hnl hou hnu hm hvg hyg hx hxu hbW hs6 hsz s3 hz1 hz2 hz3 hz5 l1 l2 l3 l4 hA1 hz hoc hnc hf
      go_wp2_with fail
      go_roundw
      case rel => exact ⟨j, ys ++ [z], by omega, by go_num, HM6.out, HC6.out, HB6.out⟩
      case measure => first | (simp [intOf]; done) | (simp [intOf]; omega)
end Go.Proofs.YtnlnmbcaongehaaGreatDoor
namespace Go.Proofs.YtnlnmbcaongehaaGreatDoor
open Go.RowKit
set_option maxRecDepth 100000 in
set_option maxHeartbeats 3200000 in
theorem equalChg_calls (a b : Option Addr) (c c' : Nat) (xs ys : List Chg) (w : World) (hx : ChgAt w a xs) (hy : ChgAt w b ys) (hf : ∀ x ∈ xs, x.fits) (hf' : ∀ x ∈ ys, x.fits) (hl : xs.length ≤ 40000000) (hl' : ys.length ≤ 40000000) :
    Calls Tryz.prog 71 #[.slice a xs.length c, .slice b ys.length c', .func (.func 72) #[] #[]] w fun e w' => e = .returned (.bool (Lib.allEq chgEq xs ys)) ∧ Below w.heap.size w w' := by
  generalize hR : Lib.allEq chgEq xs ys = R
  by_cases hle : xs.length = ys.length
  · have HX := Lib.hid (fun (w1 : World) (h : Below w.heap.size w w1) => SliceOf.keeps Chg.keeps _ _ _ _ h hx)
    have HY := Lib.hid (fun (w1 : World) (h : Below w.heap.size w w1) => SliceOf.keeps Chg.keeps _ _ _ _ h hy)
    have H0 := Lib.hid (show Lib.allEq chgEq (xs.drop 0) (ys.drop 0) = R from hR)
    have HF := Lib.hid hf
    have HG := Lib.hid hf'
    rw [← hle]
    have HLE := Lib.hid hle
    clear hle hx hy hl' hR hf hf'
    go_enter Tryz.func71, Tryz.ntmps71
    go_wp2_with fail
    go_loopw [17] (fun i wr => ∃ k : Nat, k ≤ xs.length ∧ i = .int .i64 k ∧ Lib.allEq chgEq (xs.drop k) (ys.drop k) = R ∧ Below w.heap.size w wr) (fun i _ => xs.length - (intOf i).toNat)
    case atStart => exact ⟨0, by omega, rfl, H0.out, Below.refl _ _⟩
    case round =>
      clear H0
      obtain ⟨k, hk, rfl, hp, hb⟩ := hrel
      by_cases hlt : k < xs.length
      · obtain ⟨b0, off, x, rfl, hbl, hxk, hcx, hxl⟩ := (HX.out _ hb).at_ hlt
        obtain ⟨b0', off', y, rfl, hbl', hyk, hcy, hyl⟩ := (HY.out _ hb).at_ (show k < ys.length from by have := HLE.out; omega)
        rw [drop_at xs k x hxk, drop_at ys k y hyk, Lib.allEq] at hp
        have HES := Lib.hid (fun (w1 : World) (h : Below wr.heap.size wr w1) => same72_calls x y w1 (Chg.keeps _ _ _ h hxl) (Chg.keeps _ _ _ h hyl) (HF.out x (List.mem_of_getElem? hxk)) (HG.out y (List.mem_of_getElem? hyk)))
        have R1 := Lib.hid (show wr.rangeAt b0 (off + k * 59) x.enc from fun q v e => hcx q v e)
        have R2 := Lib.hid (fun (w1 : World) (h : Below wr.heap.size wr w1) => (show w1.rangeAt b0' (off' + k * 59) y.enc from fun q u e => (h.cell (p := ⟨b0', off' + k * 59 + q, none⟩) hbl').trans (hcy q u e)))
        have HSX := Lib.hid (show (Tryz.prog.info? 54).map (·.size) = some x.enc.length by rw [chgSize, Chg.len])
        have HSY := Lib.hid (show (Tryz.prog.info? 54).map (·.size) = some y.enc.length by rw [chgSize, Chg.len])
        have HIX := Lib.hid (show (Tryz.prog.info? 54).map (·.size) = some x.enc.toArray.size by rw [chgSize, List.size_toArray, Chg.len])
        have HIY := Lib.hid (show (Tryz.prog.info? 54).map (·.size) = some y.enc.toArray.size by rw [chgSize, List.size_toArray, Chg.len])
        have HLX := Lib.hid (show x.enc.toArray.size = 59 by rw [List.size_toArray, Chg.len])
        have HLY := Lib.hid (show y.enc.toArray.size = 59 by rw [List.size_toArray, Chg.len])
        have HOX := Lib.hid (one_all (Chg.one x))
        have HOY := Lib.hid (one_all (Chg.one y))
        generalize hQ : chgEq x y = EQ at hp HES
        generalize x.enc = xe at *
        generalize y.enc = ye at *
        have HBR := Lib.hid hb
        clear hcx hcy hxk hyk hQ hxl hyl hb
        go_upto_region 6 with (first
          | (refine wpList_load_mid rfl 54 (.tmp 20) rfl b0 (off + k * 59) rfl xe _ R1.out Tryz.underlying54 rfl HSX.out ?_)
          | (refine wpList_store_row rfl 54 (.tmp 8) (.tmp 21) rfl wr.heap.size xe.toArray rfl rfl 54 _ (heap_alloc_last wr _) HIX.out HLX.out.symm HOX.out ?_; rw [World.setRow_alloc_new]))
        have hbA : Below wr.heap.size wr (wr.alloc (.cells xe.toArray 54)) := (Below.refl _ _).alloc (Nat.le_refl _) _
        have hkA := heap_alloc_last wr (.cells xe.toArray 54)
        have hsA : (wr.alloc (.cells xe.toArray 54)).heap.size = wr.heap.size + 1 := World.size_alloc _ _
        generalize wr.alloc (.cells xe.toArray 54) = wA at *
        have R2A := Lib.hid (R2.out wA hbA)
        have HBA := Lib.hid hbA
        have HKA := Lib.hid hkA
        have HSA := Lib.hid hsA
        clear hbA hkA hsA R1 R2
        go_upto_region 7 with (first
          | (refine wpList_load_mid rfl 54 (.tmp 24) rfl b0' (off' + k * 59) rfl ye _ R2A.out Tryz.underlying54 rfl HSY.out ?_)
          | (refine wpList_store_row rfl 54 (.tmp 9) (.tmp 25) rfl wA.heap.size ye.toArray rfl rfl 54 _ (heap_alloc_last wA _) HIY.out HLY.out.symm HOY.out ?_; rw [World.setRow_alloc_new]))
        have hbB : Below wr.heap.size wr (wA.alloc (.cells ye.toArray 54)) := HBA.out.alloc HBA.out.size _
        have R1B := Lib.hid (range_row ((Below.heap_alloc wA (.cells ye.toArray 54) wr.heap.size (by have := HSA.out; omega)).trans HKA.out))
        have R2B := Lib.hid (range_row (heap_alloc_last wA (.cells ye.toArray 54)))
        generalize wA.alloc (.cells ye.toArray 54) = wB at *
        have HBB := Lib.hid hbB
        clear hbB
        go_wp2_with (first
          | (refine wpList_load_mid rfl 54 (.tmp 8) rfl wr.heap.size 0 rfl xe _ R1B.out Tryz.underlying54 rfl HSX.out ?_)
          | (refine wpList_load_mid rfl 54 (.tmp 9) rfl wA.heap.size 0 rfl ye _ R2B.out Tryz.underlying54 rfl HSY.out ?_))
        refine (HES.out _ HBB.out).mono ?_
        rintro e w5 ⟨rfl, hb5⟩
        have HB5 := Lib.hid (HBR.out.trans ((HBB.out.trans (hb5.mono HBB.out.size)).mono HBR.out.size))
        clear hb5 HES
        cases EQ with
        | true =>
          have HP := Lib.hid (by simpa using hp)
          clear hp
          go_wp2_with fail
          go_roundw
          case rel => exact ⟨k + 1, by omega, by go_num, HP.out, HB5.out⟩
          all_goals first | (simp [intOf]; done) | (simp [intOf]; omega)
        | false =>
          have HP := Lib.hid (show R = false from by rw [← hp]; rfl)
          clear hp
          go_wp2_with fail
          go_ret
          exact ⟨by rw [HP.out]; rfl, HB5.out⟩
      · obtain rfl : k = xs.length := by omega
        have HP := Lib.hid (show R = true from by
          rw [← hp, List.drop_length, List.drop_eq_nil_of_le (by have := HLE.out; omega)]
          rfl)
        clear hp
        go_wp2_with fail
        go_ret
        exact ⟨by rw [HP.out]; rfl, hb⟩
  · have HP := Lib.hid (show R = false from by rw [← hR]; exact allEq_len _ _ _ hle)
    have hne : (((xs.length : Nat) : Int) != ((ys.length : Nat) : Int)) = true := by
      simp only [bne_iff_ne, ne_eq]
      omega
    clear hx hy hR hle hf hf'
    go_enter Tryz.func71, Tryz.ntmps71
    go_wp2_with fail
    go_ret
    exact ⟨by rw [HP.out]; rfl, Below.refl _ _⟩
set_option maxRecDepth 100000 in
set_option maxHeartbeats 3200000 in
theorem diffSame_calls (a b : Option Addr) (c c' : Nat) (xs ys : List Chg) (w : World) (hx : ChgAt w a xs) (hy : ChgAt w b ys) (hf : ∀ x ∈ xs, x.fits) (hf' : ∀ x ∈ ys, x.fits) (hl : xs.length ≤ 40000000) (hl' : ys.length ≤ 40000000) :
    Calls Tryz.prog 24 #[.slice a xs.length c, .slice b ys.length c'] w fun e w' => e = .returned (.bool (Lib.allEq chgEq xs ys)) ∧ Below w.heap.size w w' := by
  have HC := Lib.hid (equalChg_calls a b c c' xs ys w hx hy hf hf' hl hl')
  clear hx hy hf hf'
  go_enter Tryz.func24, Tryz.ntmps24
  go_wp2_with fail
  refine HC.out.mono ?_
  rintro e w1 ⟨rfl, hb1⟩
  go_wp2_with fail
  go_ret
  exact ⟨rfl, hb1⟩
set_option maxRecDepth 100000 in
set_option maxHeartbeats 6400000 in
theorem refChgs_calls (a a' : Option Addr) (c c' : Nat) (xs ys : List Chg) (w : World) (hx : ChgAt w a xs) (hy : ChgAt w a' ys) (hf : ∀ x ∈ xs, x.fits) (hf' : ∀ x ∈ ys, x.fits) (hl : xs.length ≤ 40000000) (hl' : ys.length ≤ 40000000) :
    Calls Tryz.prog 13 #[.slice a xs.length c, .slice a' ys.length c'] w fun e w' => e = .returned (.bool (Lib.allEq chgEq xs ys)) ∧ Below w.heap.size w w' := by
  generalize hR : Lib.allEq chgEq xs ys = R
  by_cases hle : xs.length = ys.length
  · have HX := Lib.hid (fun (w1 : World) (h : Below w.heap.size w w1) => SliceOf.keeps Chg.keeps _ _ _ _ h hx)
    have HY := Lib.hid (fun (w1 : World) (h : Below w.heap.size w w1) => SliceOf.keeps Chg.keeps _ _ _ _ h hy)
    have H0 := Lib.hid (show Lib.allEq chgEq (xs.drop 0) (ys.drop 0) = R from hR)
    have HF := Lib.hid hf
    have HG := Lib.hid hf'
    rw [← hle]
    have HLE := Lib.hid hle
    clear hle hx hy hl' hR hf hf'
    go_enter Tryz.func13, Tryz.ntmps13
    go_wp2_with fail
    go_loopw [13] (fun i wr => ∃ k : Nat, k ≤ xs.length ∧ i = .int .i64 k ∧ Lib.allEq chgEq (xs.drop k) (ys.drop k) = R ∧ Below w.heap.size w wr) (fun i _ => xs.length - (intOf i).toNat)
    case atStart => exact ⟨0, by omega, rfl, H0.out, Below.refl _ _⟩
    case round =>
      clear H0
      obtain ⟨k, hk, rfl, hp, hb⟩ := hrel
      by_cases hlt : k < xs.length
      · obtain ⟨b, off, x, rfl, hbl, hxk, hcx, hxl⟩ := (HX.out _ hb).at_ hlt
        obtain ⟨b', off', y, rfl, hbl', hyk, hcy, hyl⟩ := (HY.out _ hb).at_ (show k < ys.length from by have := HLE.out; omega)
        rw [drop_at xs k x hxk, drop_at ys k y hyk, Lib.allEq] at hp
        have HC := Lib.hid (fun (w1 : World) (h : Below wr.heap.size wr w1) => sameChange_calls x y w1 (Chg.keeps _ _ _ h hxl) (Chg.keeps _ _ _ h hyl) (HF.out x (List.mem_of_getElem? hxk)) (HG.out y (List.mem_of_getElem? hyk)))
        generalize hQ : chgEq x y = EQ at hp HC
        have r1 : ∀ (w1 : World), Below wr.heap.size wr w1 → w1.rangeAt b (off + k * 59) x.enc := fun w1 h q u e => (h.cell (p := ⟨b, off + k * 59 + q, none⟩) hbl).trans (hcx q u e)
        have r2 : ∀ (w1 : World), Below wr.heap.size wr w1 → w1.rangeAt b' (off' + k * 59) y.enc := fun w1 h q u e => (h.cell (p := ⟨b', off' + k * 59 + q, none⟩) hbl').trans (hcy q u e)
        have R1 := Lib.hid r1
        have R2 := Lib.hid r2
        have HBR := Lib.hid hb
        have hbd : Below wr.heap.size wr wr.drew := (Below.refl _ _).drew
        have HPP := Lib.hid hp
        clear hcx hcy hxl hyl hxk hyk hb r1 r2 hQ hp
        go_upto_region 6 with fail
        refine wp_region_held_drew (S := fun w' => Below wr.heap.size wr w') (by kernel_rfl) hbd (fun hHeld => ?_)
        refine wpAnyH_take (i := 0) (v := .slice (some ⟨b, off, none⟩) xs.length c) rfl (by kernel_rfl) (by kernel_rfl) (by kernel_rfl) (fun _ _ _ h => h) (.inl ⟨by rfl, fun w _ => by go_simp⟩) (by assumption) ?_
        simp only [Act.put, List.setIfInBounds_toArray, List.set_cons_zero, List.set_cons_succ]
        refine wpAnyH_take (i := 1) (v := .int .i64 k) rfl (by kernel_rfl) (by kernel_rfl) (by kernel_rfl) (fun _ _ _ h => h) (.inl ⟨by rfl, fun w _ => by go_simp⟩) (by assumption) ?_
        simp only [Act.put, List.setIfInBounds_toArray, List.set_cons_zero, List.set_cons_succ]
        refine wpAnyH_take (i := 2) (v := .pointer (some ⟨b, off + k * 59, none⟩)) rfl (by kernel_rfl) (by kernel_rfl) (by kernel_rfl) (fun _ _ _ h => h) (.inl ⟨by rfl, fun w _ => by go_simp⟩) (by assumption) ?_
        simp only [Act.put, List.setIfInBounds_toArray, List.set_cons_zero, List.set_cons_succ]
        refine wpAnyH_take (i := 3) (v := .agg x.enc.toArray) rfl (by kernel_rfl) (by kernel_rfl) (by kernel_rfl) (fun _ _ _ h => h) (yieldsIf_load_mid (by rfl) 54 (.tmp 18) rfl b (off + k * 59) rfl x.enc _ R1.out Tryz.underlying54 rfl (by rw [chgSize, Chg.len])) (by assumption) ?_
        simp only [Act.put, List.setIfInBounds_toArray, List.set_cons_zero, List.set_cons_succ]
        refine wpAnyH_take (i := 4) (v := .slice (some ⟨b', off', none⟩) xs.length c') rfl (by kernel_rfl) (by kernel_rfl) (by kernel_rfl) (fun _ _ _ h => h) (.inl ⟨by rfl, fun w _ => by go_simp⟩) (by assumption) ?_
        simp only [Act.put, List.setIfInBounds_toArray, List.set_cons_zero, List.set_cons_succ]
        refine wpAnyH_take (i := 5) (v := .int .i64 k) rfl (by kernel_rfl) (by kernel_rfl) (by kernel_rfl) (fun _ _ _ h => h) (.inl ⟨by rfl, fun w _ => by go_simp⟩) (by assumption) ?_
        simp only [Act.put, List.setIfInBounds_toArray, List.set_cons_zero, List.set_cons_succ]
        refine wpAnyH_take (i := 6) (v := .pointer (some ⟨b', off' + k * 59, none⟩)) rfl (by kernel_rfl) (by kernel_rfl) (by kernel_rfl) (fun _ _ _ h => h) (.inl ⟨by rfl, fun w _ => by go_simp⟩) (by assumption) ?_
        simp only [Act.put, List.setIfInBounds_toArray, List.set_cons_zero, List.set_cons_succ]
        refine wpAnyH_take (i := 7) (v := .agg y.enc.toArray) rfl (by kernel_rfl) (by kernel_rfl) (by kernel_rfl) (fun _ _ _ h => h) (yieldsIf_load_mid (by rfl) 54 (.tmp 22) rfl b' (off' + k * 59) rfl y.enc _ R2.out Tryz.underlying54 rfl (by rw [chgSize, Chg.len])) (by assumption) ?_
        simp only [Act.put, List.setIfInBounds_toArray, List.set_cons_zero, List.set_cons_succ]
        generalize x.enc.toArray = xe at *
        generalize y.enc.toArray = ye at *
        refine wpAnyH_ready (rs := [8]) (by kernel_rfl) (by simp) ?_
        refine AllReadyH.cons rfl (fun K hK => ?_) AllReadyH.nil
        go_simp
        refine (HC.out _ hbd).mono ?_
        rintro e w1 ⟨rfl, hb1⟩
        have hb2 : Below wr.heap.size wr w1 := hbd.trans (hb1.mono hbd.size)
        have HB1 := Lib.hid hb2
        clear hb1
        go_wp2_with fail
        refine hK.out _ _ hb2 (fun hHeld2 => ?_)
        clear hK
        try simp only [Act.put, List.setIfInBounds_toArray, List.set_cons_zero, List.set_cons_succ]
        refine wpAnyH_take (i := 9) (v := .bool (!EQ)) rfl (by kernel_rfl) (by kernel_rfl) (by kernel_rfl) (fun _ _ _ h => h) (.inl ⟨by rfl, fun w _ => by go_simp⟩) (by assumption) ?_
        simp only [Act.put, List.setIfInBounds_toArray, List.set_cons_zero, List.set_cons_succ]
        refine wpAnyH_done (by kernel_rfl) ?_ _
        cases EQ with
        | true =>
          have HP := Lib.hid (by simpa using HPP.out)
          clear HPP
          go_wp2_with fail
          go_roundw
          case rel => exact ⟨k + 1, by omega, by go_num, HP.out, HBR.out.trans (HB1.out.mono HBR.out.size)⟩
          all_goals first | (simp [intOf]; done) | (simp [intOf]; omega)
        | false =>
          have HP := Lib.hid (show R = false from by rw [← HPP.out]; rfl)
          clear HPP
          go_wp2_with fail
          go_ret
          exact ⟨by rw [HP.out]; rfl, HBR.out.trans (HB1.out.mono HBR.out.size)⟩
      · obtain rfl : k = xs.length := by omega
        have HP := Lib.hid (show R = true from by
          rw [← hp, List.drop_length, List.drop_eq_nil_of_le (by have := HLE.out; omega)]
          rfl)
        clear hp
        go_wp2_with fail
        go_ret
        exact ⟨by rw [HP.out]; rfl, hb⟩
  · have HP := Lib.hid (show R = false from by rw [← hR]; exact allEq_len _ _ _ hle)
    have hne : (((xs.length : Nat) : Int) != ((ys.length : Nat) : Int)) = true := by
      simp only [bne_iff_ne, ne_eq]
      omega
    clear hx hy hR hle hf hf'
    go_enter Tryz.func13, Tryz.ntmps13
    go_wp2_with fail
    go_ret
    exact ⟨by rw [HP.out]; rfl, Below.refl _ _⟩
end Go.Proofs.YtnlnmbcaongehaaGreatDoor
namespace Go.Proofs.YtnlnmbcaongehaaGreatDoor
open Go.RowKit
set_option maxRecDepth 100000 in
set_option maxHeartbeats 6400000 in
theorem fldsNo_calls (c : Chg) (w : World) (h1 : c.sec ≠ 1) (h2 : c.sec ≠ 2) (h3 : c.sec ≠ 3) (h4 : c.sec ≠ 4) : Calls Tryz.prog 62 #[.agg c.enc.toArray] w (FldsPost (fieldsOf c) w) := by
  have hfo : fieldsOf c = [] := by simp [fieldsOf, h1, h2, h3, h4]
  have HQ := Lib.hid (fun (w' : World) (h : Below w.heap.size w w') => (show FldsPost (fieldsOf c) w (.returned (.slice none 0 0)) w' from ⟨none, 0, by rw [hfo]; rfl, .inl hfo, h⟩))
  clear hfo
  generalize FldsPost (fieldsOf c) w = Q at *
  obtain ⟨sec, id, name, ad, gn, oh, nh, rg, nr, oe, ne, oc, nc⟩ := c
  simp only at h1 h2 h3 h4
  generalize hcl : Chg.enc _ = cl
  have hc0 : cl.toArray[0]? = some (.int .u8 sec) := by rw [← hcl]; rfl
  have f0 := box_cell w cl.toArray 54 0 _ hc0
  clear hcl hc0
  have hb0 : Below (w.heap.size + 1) (w.alloc (.cells cl.toArray 54)) (w.alloc (.cells cl.toArray 54)) := Below.refl _ _
  have HB := Lib.hid (fun (w1 : World) (h : Below (w.heap.size + 1) (w.alloc (.cells cl.toArray 54)) w1) => box_below h)
  generalize hW0 : w.alloc (.cells cl.toArray 54) = W0 at *
  have HW0 := Lib.hid hW0
  clear hW0
  go_enter Tryz.func62, Tryz.ntmps62
  go_upto_region 1 with fail
  rw [HW0.out]
  go_wp2_with fail
  all_goals first
    | exact HQ.out _ (HB.out _ hb0)
    | omega
    | contradiction
/-- The fields of any change. -/
theorem flds_calls (c : Chg) (w : World) (hl : c.lies w) (hfo : ∀ r ∈ c.oe.rows, r.runs.length ≤ 4000000) (hfn : ∀ r ∈ c.ne.rows, r.runs.length ≤ 4000000) (hle : c.oe.rows.length ≤ 4000000) :
    Calls Tryz.prog 62 #[.agg c.enc.toArray] w (FldsPost (fieldsOf c) w) := by
  by_cases h1 : c.sec = 1
  · exact fldsHd_calls c w h1
  by_cases h2 : c.sec = 2
  · exact fldsReg_calls c w h2
  by_cases h3 : c.sec = 3
  · exact fldsEv_calls c w h3 hl hfo hfn hle
  by_cases h4 : c.sec = 4
  · exact fldsCm_calls c w h4
  exact fldsNo_calls c w h1 h2 h3 h4
end Go.Proofs.YtnlnmbcaongehaaGreatDoor
namespace Go.Proofs.YtnlnmbcaongehaaGreatDoor
open Go.RowKit
/-- Where a list of changes has none, the documents have the same. -/
structure Covers (a b : DocC) (L : List ChgC) : Prop where
  hd : (¬ ∃ c ∈ L, c.sec = 1) → a.hd = b.hd
  regs : ∀ k, (¬ ∃ c ∈ L, c.sec = 2 ∧ c.name = k) → a.regs.find? (regAt k) = b.regs.find? (regAt k)
  evs : ∀ k, (¬ ∃ c ∈ L, c.sec = 3 ∧ c.id = k) → a.evs.find? (evAt k) = b.evs.find? (evAt k)
  cms : ∀ k, (¬ ∃ c ∈ L, c.sec = 4 ∧ c.id = k) → a.cms.find? (cmAt k) = b.cms.find? (cmAt k)
theorem Covers.mid {a b : DocC} {L : List ChgC} (ha : DocOk a) (h : Covers a b L) : Mid a b a L :=
  ⟨ha, ⟨fun _ => rfl, h.hd⟩, fun k => ⟨fun _ => rfl, h.regs k⟩, fun k => ⟨fun _ => rfl, h.evs k⟩, fun k => ⟨fun _ => rfl, h.cms k⟩⟩
theorem mem_invL {c : ChgC} {L : List ChgC} : c ∈ invL L ↔ ∃ x ∈ L, invC x = c := by
  unfold invL
  rw [List.mem_reverse, List.mem_map]
end Go.Proofs.YtnlnmbcaongehaaGreatDoor
