/- Laws of a round of Invert: the events of a change change places (the program's and the reference's). (printed by gen_invevs.py) Laws of a round of Invert: the change is appended to the list. (printed by gen_invapp.py) A round of diff.Invert: the change in the box changes its halves, and is appended to the list. (printed by gen_invround.py) -/
import Derived.Test.YtnlnmbcaongehaaGreatDoorT04
import Derived.Test.YtnlnmbcaongehaaGreatDoorBase09
import Derived.Test.YtnlnmbcaongehaaGreatDoorT00
import Derived.Test.YtnlnmbcaongehaaGreatDoorBase17
import Derived.Test.YtnlnmbcaongehaaGreatDoorBase16
import Derived.Test.YtnlnmbcaongehaaGreatDoorBase12
import Derived.Test.YtnlnmbcaongehaaGreatDoorBase10
import Derived.Test.YtnlnmbcaongehaaGreatDoorBase06
import Derived.Test.YtnlnmbcaongehaaGreatDoorBase04
import Derived.Test.YtnlnmbcaongehaaGreatDoorBase02
import Derived.Test.YtnlnmbcaongehaaGreatDoorBase01
import Derived.Test.YtnlnmbcaongehaaGreatDoorBase00
import Derived.Test.YtnlnmbcaongehaaGreatDoorBase03
import Derived.Test.YtnlnmbcaongehaaGreatDoorBase11
import Derived.Test.YtnlnmbcaongehaaGreatDoorBase15
import Derived.Test.YtnlnmbcaongehaaGreatDoorBase14
import Derived.Test.YtnlnmbcaongehaaGreatDoorBase13
import Derived.Test.YtnlnmbcaongehaaGreatDoorBase05
import Derived.Test.YtnlnmbcaongehaaGreatDoorBase08
import Derived.Test.YtnlnmbcaongehaaGreatDoorBase07
set_option linter.unusedVariables false
set_option linter.unusedSimpArgs false
namespace Go.Proofs.YtnlnmbcaongehaaGreatDoor
open Go.RowKit
attribute [local go_sem ↓] Go.wp_at_zero Go.wp_at_succ
set_option maxRecDepth 100000 in
set_option maxHeartbeats 6400000 in
theorem evs_p {Q : Exit → Act → World → Prop} (hQp : ∀ c a a' w, Q (.panic c) a w → Q (.panic c) a' w) (g : Nat) (A S : List Value) (x y : Ev) (w : World) (hg : w.heap[g]? = some (.cells (A ++ (x.enc ++ (y.enc ++ S))).toArray 54 (0, 0))) (hA : A.length = 29)
    (hx : x.lies w) (hy : y.lies w) (hfx : (∀ r ∈ x.rows, r.runs.length ≤ 4000000) ∧ x.rows.length ≤ 4000000) (hfy : (∀ r ∈ y.rows, r.runs.length ≤ 4000000) ∧ y.rows.length ≤ 4000000) (ds : List Deferred) (s0 s1 s2 s3 s4 s6 s7 s8 s9 s10 s11 s12 s13 s14 s15 s16 s17 s18 s19 s20 s21 s22 s23 s24 s25 s26 s27 s28 s29 s30 s31 s32 s33 s34 s35 s36 s37 s38 s39 s40 s41 s42 s43 s44 s45 s46 : Value)
    (h : ∀ (w' : World) (x' y' : Ev) (u0 u1 u2 u3 u4 u5 u6 u7 : Value), x'.c = x.c → y'.c = y.c → x'.lies w' → y'.lies w' → (∀ b, x'.uses b → w.heap.size ≤ b) → (∀ b, y'.uses b → w.heap.size ≤ b) → w'.heap[g]? = some (.cells (A ++ (y'.enc ++ (x'.enc ++ S))).toArray 54 (0, 0)) → w.grownBy w' (some g) →
      Q .normal { tmps := #[s0, s1, s2, s3, s4, .pointer (some ⟨g, 0, none⟩), s6, s7, s8, s9, s10, s11, s12, s13, s14, s15, s16, s17, s18, s19, s20, s21, s22, s23, s24, s25, s26, s27, u0, u1, u2, u3, u4, u5, u6, u7, s36, s37, s38, s39, s40, s41, s42, s43, s44, s45, s46], defers := ds } w') :
    wpAnyH Tryz.prog .any (fnOps Tryz.f17 7) Q (fun _ => True) (fnOps Tryz.f17 7).size (Array.replicate (fnOps Tryz.f17 7).size false) { tmps := #[s0, s1, s2, s3, s4, .pointer (some ⟨g, 0, none⟩), s6, s7, s8, s9, s10, s11, s12, s13, s14, s15, s16, s17, s18, s19, s20, s21, s22, s23, s24, s25, s26, s27, s28, s29, s30, s31, s32, s33, s34, s35, s36, s37, s38, s39, s40, s41, s42, s43, s44, s45, s46], defers := ds } w.drew := by
  have hlt : g < w.heap.size := (Array.getElem?_eq_some_iff.1 hg).1
  have HLT := Lib.hid hlt
  have HRX := Lib.hid (fun (w1 : World) (hh : w1.heap[g]? = some (.cells (A ++ (x.enc ++ (y.enc ++ S))).toArray 54 (0, 0))) => range_seg hh hA)
  have HRY := Lib.hid (fun (w1 : World) (hh : w1.heap[g]? = some (.cells (A ++ (x.enc ++ (y.enc ++ S))).toArray 54 (0, 0))) => range_seg (A := A ++ x.enc) (X := y.enc) (S := S) (o := 36) (by rw [List.append_assoc]; exact hh) (by rw [List.length_append, hA]; rfl))
  have HS50 := Lib.hid (fun (z : Ev) => (show (Tryz.prog.info? 50).map (·.size) = some z.enc.length from (by kernel_rfl : (Tryz.prog.info? 50).map (·.size) = some 7)))
  have HO := Lib.hid Ev.one
  have HA := Lib.hid hA
  have hd0 : Below w.heap.size w w.drew := (Below.refl _ _).drew
  have HCX := Lib.hid (fun (w1 : World) (hb : Below w.heap.size w w1) => evClone_calls x w1 (Ev.keeps _ _ _ hb hx) hfx.1 hfx.2)
  have HCY := Lib.hid (fun (w1 : World) (hb : Below w.heap.size w w1) => evClone_calls y w1 (Ev.keeps _ _ _ hb hy) hfy.1 hfy.2)
  have HG := Lib.hid (fun (w1 : World) (hb : Below w.heap.size w w1) => (hb.block g hlt).trans hg)
  have HP := Lib.hid hQp
  -- behind both copies
  have HE := Lib.hid (fun (w1 w2 : World) (x' y' : Ev) (u0 u1 u2 u3 u4 u5 u6 u7 : Value) (h1 : Below w.heap.size w w1) (hyc : y'.c = y.c) (hyl : y'.lies w1) (hyu : ∀ b, y'.uses b → w.heap.size ≤ b) (h2 : Below w1.heap.size w1 w2) (hxc : x'.c = x.c) (hxl : x'.lies w2) (hxu : ∀ b, x'.uses b → w1.heap.size ≤ b) => (show
      ∃ hg2 : w2.heap[g]? = some (.cells (A ++ (x.enc ++ (y.enc ++ S))).toArray 54 (0, 0)), (w2.setRow g (A ++ (y'.enc ++ (y.enc ++ S))).toArray).heap[g]? = some (.cells ((A ++ y'.enc) ++ (y.enc ++ S)).toArray 54 (0, 0)) ∧ Q .normal { tmps := #[s0, s1, s2, s3, s4, .pointer (some ⟨g, 0, none⟩), s6, s7, s8, s9, s10, s11, s12, s13, s14, s15, s16, s17, s18, s19, s20, s21, s22, s23, s24, s25, s26, s27, u0, u1, u2, u3, u4, u5, u6, u7, s36, s37, s38, s39, s40, s41, s42, s43, s44, s45, s46], defers := ds } ((w2.setRow g (A ++ (y'.enc ++ (y.enc ++ S))).toArray).setRow g ((A ++ y'.enc) ++ (x'.enc ++ S)).toArray) from by
    have h12 : Below w.heap.size w w2 := h1.trans (h2.mono h1.size)
    have hg2 := (h12.block g hlt).trans hg
    have hg3 := setRow_heap w2 g _ (A ++ (y'.enc ++ (y.enc ++ S))).toArray _ _ hg2
    have hg4 := setRow_heap _ g _ ((A ++ y'.enc) ++ (x'.enc ++ S)).toArray _ _ hg3
    have ha : Aside w2 g ((w2.setRow g (A ++ (y'.enc ++ (y.enc ++ S))).toArray).setRow g ((A ++ y'.enc) ++ (x'.enc ++ S)).toArray) := (aside_row _ _ _).trans (by rw [size_row]; exact Nat.le_refl _) (aside_row _ _ _)
    have hsz : ((w2.setRow g (A ++ (y'.enc ++ (y.enc ++ S))).toArray).setRow g ((A ++ y'.enc) ++ (x'.enc ++ S)).toArray).heap.size = w2.heap.size := by rw [size_row, size_row]
    have fr : ∀ (z : Ev), z.lies w2 → (∀ b, z.uses b → w.heap.size ≤ b) → z.lies ((w2.setRow g (A ++ (y'.enc ++ (y.enc ++ S))).toArray).setRow g ((A ++ y'.enc) ++ (x'.enc ++ S)).toArray) := fun z hz hu =>
      Ev.frame hz (by rw [hsz]; exact Nat.le_refl _) fun b hb => ha b (Ev.uses_lt hz hb) (by have := hu b hb; omega)
    have hxu' : ∀ b, x'.uses b → w.heap.size ≤ b := fun b hb => Nat.le_trans h1.size (hxu b hb)
    refine ⟨hg2, by rw [List.append_assoc]; exact hg3, h _ x' y' u0 u1 u2 u3 u4 u5 u6 u7 hxc hyc (fr x' hxl hxu') (fr y' (Ev.keeps _ _ _ h2 hyl) hyu) hxu' hyu (by rw [List.append_assoc] at hg4; rw [List.append_assoc]; exact hg4) (grown_trans (grown_below h12) (grown_trans (grown_row _ _ _) (grown_row _ _ _)))⟩))
  clear h hg hA hx hy hfx hfy hQp
  generalize hO : fnOps Tryz.f17 7 = os
  have hO' : (fnOps Tryz.f17 7).toList = os.toList := by rw [hO]
  conv at hO' => lhs; whnf
  clear hO
  obtain ⟨l⟩ := os
  change _ = l at hO'
  subst hO'

  refine wpAnyH_take (i := 0) (v := .pointer (some ⟨g, 36, none⟩)) rfl (by kernel_rfl) (by kernel_rfl) (by kernel_rfl) (fun c a' w' hh => HP.out c _ _ w' hh) (.inl ⟨by rfl, fun w' _ => by go_simp⟩) trivial ?_
  try simp only [Act.put, List.getElem_toArray, List.getElem_cons_zero, List.getElem_cons_succ, List.setIfInBounds_toArray, List.set_cons_zero, List.set_cons_succ, Array.toArray_toList]
  refine wpAnyH_take (i := 3) (v := .pointer (some ⟨g, 29, none⟩)) rfl (by kernel_rfl) (by kernel_rfl) (by kernel_rfl) (fun c a' w' hh => HP.out c _ _ w' hh) (.inl ⟨by rfl, fun w' _ => by go_simp⟩) trivial ?_
  try simp only [Act.put, List.getElem_toArray, List.getElem_cons_zero, List.getElem_cons_succ, List.setIfInBounds_toArray, List.set_cons_zero, List.set_cons_succ, Array.toArray_toList]
  refine wpAnyH_ready (rs := [1, 4]) (by kernel_rfl) (by simp) ?_
  refine AllReadyH.cons rfl (fun K hK => ?_) (AllReadyH.cons rfl (fun K hK => ?_) AllReadyH.nil)
  · skip
    rw [if_pos (by rfl)]
    refine wp_load_mid 50 (.tmp 28) rfl g 36 rfl y.enc _ (HRY.out w.drew (HG.out _ hd0)) Tryz.underlying50 rfl (HS50.out y) ?_
    refine hK.out _ _ trivial (fun _ => ?_)
    clear hK
    try simp only [Act.put, List.getElem_toArray, List.getElem_cons_zero, List.getElem_cons_succ, List.setIfInBounds_toArray, List.set_cons_zero, List.set_cons_succ, Array.toArray_toList]
    refine wpAnyH_ready (rs := [2, 4]) (by kernel_rfl) (by simp) ?_
    refine AllReadyH.cons rfl (fun K hK => ?_) (AllReadyH.cons rfl (fun K hK => ?_) AllReadyH.nil)
    · skip
      go_simp
      refine (HCY.out _ hd0).mono ?_
      rintro e w1 ⟨y', rfl, hyc, hyl, hyu, hb1⟩
      have hd1 : Below w.heap.size w w1 := hd0.trans (hb1.mono hd0.size)
      have HYC := Lib.hid hyc; have HYL := Lib.hid hyl; have HYU := Lib.hid (fun b hb => Nat.le_trans hd0.size (hyu b hb))
      clear hyc hyl hyu hb1
      go_wp2_with fail
      refine hK.out _ _ trivial (fun _ => ?_)
      clear hK
      try simp only [Act.put, List.getElem_toArray, List.getElem_cons_zero, List.getElem_cons_succ, List.setIfInBounds_toArray, List.set_cons_zero, List.set_cons_succ, Array.toArray_toList]
      refine wpAnyH_ready (rs := [4]) (by kernel_rfl) (by simp) ?_
      refine AllReadyH.cons rfl (fun K hK => ?_) AllReadyH.nil
      rw [if_pos (by rfl)]
      refine wp_load_mid 50 (.tmp 31) rfl g 29 rfl x.enc _ (HRX.out w1 (HG.out _ hd1)) Tryz.underlying50 rfl (HS50.out x) ?_
      refine hK.out _ _ trivial (fun _ => ?_)
      clear hK
      try simp only [Act.put, List.getElem_toArray, List.getElem_cons_zero, List.getElem_cons_succ, List.setIfInBounds_toArray, List.set_cons_zero, List.set_cons_succ, Array.toArray_toList]
      refine wpAnyH_take (i := 6) (v := .pointer (some ⟨g, 29, none⟩)) rfl (by kernel_rfl) (by kernel_rfl) (by kernel_rfl) (fun c a' w' hh => HP.out c _ _ w' hh) (.inl ⟨by rfl, fun w' _ => by go_simp⟩) trivial ?_
      try simp only [Act.put, List.getElem_toArray, List.getElem_cons_zero, List.getElem_cons_succ, List.setIfInBounds_toArray, List.set_cons_zero, List.set_cons_succ, Array.toArray_toList]
      refine wpAnyH_ready (rs := [5]) (by kernel_rfl) (by simp) ?_
      refine AllReadyH.cons rfl (fun K hK => ?_) AllReadyH.nil
      go_simp
      refine (HCX.out _ hd1).mono ?_
      rintro e w2 ⟨x', rfl, hxc, hxl, hxu, hb2⟩
      have HEE := Lib.hid (fun u0 u1 u2 u3 u4 u5 u6 u7 => HE.out w1 w2 x' y' u0 u1 u2 u3 u4 u5 u6 u7 hd1 HYC.out HYL.out HYU.out hb2 hxc hxl hxu)
      obtain ⟨hg2, hg3, _⟩ := HEE.out s0 s0 s0 s0 s0 s0 s0 s0
      have HG2 := Lib.hid hg2; have HG3 := Lib.hid hg3
      clear hxc hxl hxu hb2 hg2 hg3
      go_wp2_with fail
      refine hK.out _ _ trivial (fun _ => ?_)
      clear hK
      try simp only [Act.put, List.getElem_toArray, List.getElem_cons_zero, List.getElem_cons_succ, List.setIfInBounds_toArray, List.set_cons_zero, List.set_cons_succ, Array.toArray_toList]
      refine wpAnyH_ready (rs := [7]) (by kernel_rfl) (by simp) ?_
      refine AllReadyH.cons rfl (fun K hK => ?_) AllReadyH.nil
      rw [if_pos (by rfl)]
      refine wp_store_seg 50 (.tmp 34) (.tmp 30) rfl g 29 y'.enc rfl rfl A x.enc (y.enc ++ S) 54 HG2.out HA.out rfl (HS50.out y') (HO.out y') ?_
      refine hK.out _ _ trivial (fun _ => ?_)
      clear hK
      try simp only [Act.put, List.getElem_toArray, List.getElem_cons_zero, List.getElem_cons_succ, List.setIfInBounds_toArray, List.set_cons_zero, List.set_cons_succ, Array.toArray_toList]
      refine wpAnyH_take (i := 8) (v := .pointer (some ⟨g, 36, none⟩)) rfl (by kernel_rfl) (by kernel_rfl) (by kernel_rfl) (fun c a' w' hh => HP.out c _ _ w' hh) (.inl ⟨by rfl, fun w' _ => by go_simp⟩) trivial ?_
      try simp only [Act.put, List.getElem_toArray, List.getElem_cons_zero, List.getElem_cons_succ, List.setIfInBounds_toArray, List.set_cons_zero, List.set_cons_succ, Array.toArray_toList]
      refine wpAnyH_ready (rs := [9]) (by kernel_rfl) (by simp) ?_
      refine AllReadyH.cons rfl (fun K hK => ?_) AllReadyH.nil
      rw [if_pos (by rfl)]
      refine wp_store_seg 50 (.tmp 35) (.tmp 33) rfl g 36 x'.enc rfl rfl (A ++ y'.enc) y.enc S 54 HG3.out (by rw [List.length_append, HA.out]; rfl) rfl (HS50.out x') (HO.out x') ?_
      refine hK.out _ _ trivial (fun _ => ?_)
      clear hK
      try simp only [Act.put, List.getElem_toArray, List.getElem_cons_zero, List.getElem_cons_succ, List.setIfInBounds_toArray, List.set_cons_zero, List.set_cons_succ, Array.toArray_toList]
      refine wpAnyH_done (by kernel_rfl) ?_ _
      exact (HEE.out _ _ _ _ _ _ _ _).2.2
    · skip
      rw [if_pos (by rfl)]
      refine wp_load_mid 50 (.tmp 31) rfl g 29 rfl x.enc _ (HRX.out w.drew (HG.out _ hd0)) Tryz.underlying50 rfl (HS50.out x) ?_
      refine hK.out _ _ trivial (fun _ => ?_)
      clear hK
      try simp only [Act.put, List.getElem_toArray, List.getElem_cons_zero, List.getElem_cons_succ, List.setIfInBounds_toArray, List.set_cons_zero, List.set_cons_succ, Array.toArray_toList]
      refine wpAnyH_ready (rs := [2]) (by kernel_rfl) (by simp) ?_
      refine AllReadyH.cons rfl (fun K hK => ?_) AllReadyH.nil
      go_simp
      refine (HCY.out _ hd0).mono ?_
      rintro e w1 ⟨y', rfl, hyc, hyl, hyu, hb1⟩
      have hd1 : Below w.heap.size w w1 := hd0.trans (hb1.mono hd0.size)
      have HYC := Lib.hid hyc; have HYL := Lib.hid hyl; have HYU := Lib.hid (fun b hb => Nat.le_trans hd0.size (hyu b hb))
      clear hyc hyl hyu hb1
      go_wp2_with fail
      refine hK.out _ _ trivial (fun _ => ?_)
      clear hK
      try simp only [Act.put, List.getElem_toArray, List.getElem_cons_zero, List.getElem_cons_succ, List.setIfInBounds_toArray, List.set_cons_zero, List.set_cons_succ, Array.toArray_toList]
      refine wpAnyH_take (i := 6) (v := .pointer (some ⟨g, 29, none⟩)) rfl (by kernel_rfl) (by kernel_rfl) (by kernel_rfl) (fun c a' w' hh => HP.out c _ _ w' hh) (.inl ⟨by rfl, fun w' _ => by go_simp⟩) trivial ?_
      try simp only [Act.put, List.getElem_toArray, List.getElem_cons_zero, List.getElem_cons_succ, List.setIfInBounds_toArray, List.set_cons_zero, List.set_cons_succ, Array.toArray_toList]
      refine wpAnyH_ready (rs := [5]) (by kernel_rfl) (by simp) ?_
      refine AllReadyH.cons rfl (fun K hK => ?_) AllReadyH.nil
      go_simp
      refine (HCX.out _ hd1).mono ?_
      rintro e w2 ⟨x', rfl, hxc, hxl, hxu, hb2⟩
      have HEE := Lib.hid (fun u0 u1 u2 u3 u4 u5 u6 u7 => HE.out w1 w2 x' y' u0 u1 u2 u3 u4 u5 u6 u7 hd1 HYC.out HYL.out HYU.out hb2 hxc hxl hxu)
      obtain ⟨hg2, hg3, _⟩ := HEE.out s0 s0 s0 s0 s0 s0 s0 s0
      have HG2 := Lib.hid hg2; have HG3 := Lib.hid hg3
      clear hxc hxl hxu hb2 hg2 hg3
      go_wp2_with fail
      refine hK.out _ _ trivial (fun _ => ?_)
      clear hK
      try simp only [Act.put, List.getElem_toArray, List.getElem_cons_zero, List.getElem_cons_succ, List.setIfInBounds_toArray, List.set_cons_zero, List.set_cons_succ, Array.toArray_toList]
      refine wpAnyH_ready (rs := [7]) (by kernel_rfl) (by simp) ?_
      refine AllReadyH.cons rfl (fun K hK => ?_) AllReadyH.nil
      rw [if_pos (by rfl)]
      refine wp_store_seg 50 (.tmp 34) (.tmp 30) rfl g 29 y'.enc rfl rfl A x.enc (y.enc ++ S) 54 HG2.out HA.out rfl (HS50.out y') (HO.out y') ?_
      refine hK.out _ _ trivial (fun _ => ?_)
      clear hK
      try simp only [Act.put, List.getElem_toArray, List.getElem_cons_zero, List.getElem_cons_succ, List.setIfInBounds_toArray, List.set_cons_zero, List.set_cons_succ, Array.toArray_toList]
      refine wpAnyH_take (i := 8) (v := .pointer (some ⟨g, 36, none⟩)) rfl (by kernel_rfl) (by kernel_rfl) (by kernel_rfl) (fun c a' w' hh => HP.out c _ _ w' hh) (.inl ⟨by rfl, fun w' _ => by go_simp⟩) trivial ?_
      try simp only [Act.put, List.getElem_toArray, List.getElem_cons_zero, List.getElem_cons_succ, List.setIfInBounds_toArray, List.set_cons_zero, List.set_cons_succ, Array.toArray_toList]
      refine wpAnyH_ready (rs := [9]) (by kernel_rfl) (by simp) ?_
      refine AllReadyH.cons rfl (fun K hK => ?_) AllReadyH.nil
      rw [if_pos (by rfl)]
      refine wp_store_seg 50 (.tmp 35) (.tmp 33) rfl g 36 x'.enc rfl rfl (A ++ y'.enc) y.enc S 54 HG3.out (by rw [List.length_append, HA.out]; rfl) rfl (HS50.out x') (HO.out x') ?_
      refine hK.out _ _ trivial (fun _ => ?_)
      clear hK
      try simp only [Act.put, List.getElem_toArray, List.getElem_cons_zero, List.getElem_cons_succ, List.setIfInBounds_toArray, List.set_cons_zero, List.set_cons_succ, Array.toArray_toList]
      refine wpAnyH_done (by kernel_rfl) ?_ _
      exact (HEE.out _ _ _ _ _ _ _ _).2.2
  · skip
    rw [if_pos (by rfl)]
    refine wp_load_mid 50 (.tmp 31) rfl g 29 rfl x.enc _ (HRX.out w.drew (HG.out _ hd0)) Tryz.underlying50 rfl (HS50.out x) ?_
    refine hK.out _ _ trivial (fun _ => ?_)
    clear hK
    try simp only [Act.put, List.getElem_toArray, List.getElem_cons_zero, List.getElem_cons_succ, List.setIfInBounds_toArray, List.set_cons_zero, List.set_cons_succ, Array.toArray_toList]
    refine wpAnyH_ready (rs := [1]) (by kernel_rfl) (by simp) ?_
    refine AllReadyH.cons rfl (fun K hK => ?_) AllReadyH.nil
    rw [if_pos (by rfl)]
    refine wp_load_mid 50 (.tmp 28) rfl g 36 rfl y.enc _ (HRY.out w.drew (HG.out _ hd0)) Tryz.underlying50 rfl (HS50.out y) ?_
    refine hK.out _ _ trivial (fun _ => ?_)
    clear hK
    try simp only [Act.put, List.getElem_toArray, List.getElem_cons_zero, List.getElem_cons_succ, List.setIfInBounds_toArray, List.set_cons_zero, List.set_cons_succ, Array.toArray_toList]
    refine wpAnyH_ready (rs := [2]) (by kernel_rfl) (by simp) ?_
    refine AllReadyH.cons rfl (fun K hK => ?_) AllReadyH.nil
    go_simp
    refine (HCY.out _ hd0).mono ?_
    rintro e w1 ⟨y', rfl, hyc, hyl, hyu, hb1⟩
    have hd1 : Below w.heap.size w w1 := hd0.trans (hb1.mono hd0.size)
    have HYC := Lib.hid hyc; have HYL := Lib.hid hyl; have HYU := Lib.hid (fun b hb => Nat.le_trans hd0.size (hyu b hb))
    clear hyc hyl hyu hb1
    go_wp2_with fail
    refine hK.out _ _ trivial (fun _ => ?_)
    clear hK
    try simp only [Act.put, List.getElem_toArray, List.getElem_cons_zero, List.getElem_cons_succ, List.setIfInBounds_toArray, List.set_cons_zero, List.set_cons_succ, Array.toArray_toList]
    refine wpAnyH_take (i := 6) (v := .pointer (some ⟨g, 29, none⟩)) rfl (by kernel_rfl) (by kernel_rfl) (by kernel_rfl) (fun c a' w' hh => HP.out c _ _ w' hh) (.inl ⟨by rfl, fun w' _ => by go_simp⟩) trivial ?_
    try simp only [Act.put, List.getElem_toArray, List.getElem_cons_zero, List.getElem_cons_succ, List.setIfInBounds_toArray, List.set_cons_zero, List.set_cons_succ, Array.toArray_toList]
    refine wpAnyH_ready (rs := [5]) (by kernel_rfl) (by simp) ?_
    refine AllReadyH.cons rfl (fun K hK => ?_) AllReadyH.nil
    go_simp
    refine (HCX.out _ hd1).mono ?_
    rintro e w2 ⟨x', rfl, hxc, hxl, hxu, hb2⟩
    have HEE := Lib.hid (fun u0 u1 u2 u3 u4 u5 u6 u7 => HE.out w1 w2 x' y' u0 u1 u2 u3 u4 u5 u6 u7 hd1 HYC.out HYL.out HYU.out hb2 hxc hxl hxu)
    obtain ⟨hg2, hg3, _⟩ := HEE.out s0 s0 s0 s0 s0 s0 s0 s0
    have HG2 := Lib.hid hg2; have HG3 := Lib.hid hg3
    clear hxc hxl hxu hb2 hg2 hg3
    go_wp2_with fail
    refine hK.out _ _ trivial (fun _ => ?_)
    clear hK
    try simp only [Act.put, List.getElem_toArray, List.getElem_cons_zero, List.getElem_cons_succ, List.setIfInBounds_toArray, List.set_cons_zero, List.set_cons_succ, Array.toArray_toList]
    refine wpAnyH_ready (rs := [7]) (by kernel_rfl) (by simp) ?_
    refine AllReadyH.cons rfl (fun K hK => ?_) AllReadyH.nil
    rw [if_pos (by rfl)]
    refine wp_store_seg 50 (.tmp 34) (.tmp 30) rfl g 29 y'.enc rfl rfl A x.enc (y.enc ++ S) 54 HG2.out HA.out rfl (HS50.out y') (HO.out y') ?_
    refine hK.out _ _ trivial (fun _ => ?_)
    clear hK
    try simp only [Act.put, List.getElem_toArray, List.getElem_cons_zero, List.getElem_cons_succ, List.setIfInBounds_toArray, List.set_cons_zero, List.set_cons_succ, Array.toArray_toList]
    refine wpAnyH_take (i := 8) (v := .pointer (some ⟨g, 36, none⟩)) rfl (by kernel_rfl) (by kernel_rfl) (by kernel_rfl) (fun c a' w' hh => HP.out c _ _ w' hh) (.inl ⟨by rfl, fun w' _ => by go_simp⟩) trivial ?_
    try simp only [Act.put, List.getElem_toArray, List.getElem_cons_zero, List.getElem_cons_succ, List.setIfInBounds_toArray, List.set_cons_zero, List.set_cons_succ, Array.toArray_toList]
    refine wpAnyH_ready (rs := [9]) (by kernel_rfl) (by simp) ?_
    refine AllReadyH.cons rfl (fun K hK => ?_) AllReadyH.nil
    rw [if_pos (by rfl)]
    refine wp_store_seg 50 (.tmp 35) (.tmp 33) rfl g 36 x'.enc rfl rfl (A ++ y'.enc) y.enc S 54 HG3.out (by rw [List.length_append, HA.out]; rfl) rfl (HS50.out x') (HO.out x') ?_
    refine hK.out _ _ trivial (fun _ => ?_)
    clear hK
    try simp only [Act.put, List.getElem_toArray, List.getElem_cons_zero, List.getElem_cons_succ, List.setIfInBounds_toArray, List.set_cons_zero, List.set_cons_succ, Array.toArray_toList]
    refine wpAnyH_done (by kernel_rfl) ?_ _
    exact (HEE.out _ _ _ _ _ _ _ _).2.2
set_option maxRecDepth 100000 in
set_option maxHeartbeats 6400000 in
theorem evs_r {Q : Exit → Act → World → Prop} (hQp : ∀ c a a' w, Q (.panic c) a w → Q (.panic c) a' w) (g : Nat) (A S : List Value) (x y : Ev) (w : World) (hg : w.heap[g]? = some (.cells (A ++ (x.enc ++ (y.enc ++ S))).toArray 54 (0, 0))) (hA : A.length = 29)
    (hx : x.lies w) (hy : y.lies w) (hfx : (∀ r ∈ x.rows, r.runs.length ≤ 4000000) ∧ x.rows.length ≤ 4000000) (hfy : (∀ r ∈ y.rows, r.runs.length ≤ 4000000) ∧ y.rows.length ≤ 4000000) (ds : List Deferred) (s0 s1 s2 s3 s4 s6 s7 s8 s9 s10 s11 s12 s13 s14 s15 s16 s17 s18 s19 s20 s21 s22 s23 s24 s25 s26 s27 s28 s29 s30 s31 s32 s33 s34 s35 s36 s37 s38 s39 s40 s41 s42 s43 s44 s45 s46 s47 s48 s49 s50 s51 s52 s53 : Value)
    (h : ∀ (w' : World) (x' y' : Ev) (u0 u1 u2 u3 u4 u5 u6 u7 : Value), x'.c = x.c → y'.c = y.c → x'.lies w' → y'.lies w' → (∀ b, x'.uses b → w.heap.size ≤ b) → (∀ b, y'.uses b → w.heap.size ≤ b) → w'.heap[g]? = some (.cells (A ++ (y'.enc ++ (x'.enc ++ S))).toArray 54 (0, 0)) → w.grownBy w' (some g) →
      Q .normal { tmps := #[s0, s1, s2, s3, s4, .pointer (some ⟨g, 0, none⟩), s6, s7, s8, s9, s10, s11, s12, s13, s14, s15, s16, s17, s18, s19, s20, s21, s22, s23, s24, s25, s26, s27, s28, s29, s30, s31, s32, s33, s34, u0, u1, u2, u3, u4, u5, u6, u7, s43, s44, s45, s46, s47, s48, s49, s50, s51, s52, s53], defers := ds } w') :
    wpAnyH Tryz.prog .any (fnOps Tryz.f21 9) Q (fun _ => True) (fnOps Tryz.f21 9).size (Array.replicate (fnOps Tryz.f21 9).size false) { tmps := #[s0, s1, s2, s3, s4, .pointer (some ⟨g, 0, none⟩), s6, s7, s8, s9, s10, s11, s12, s13, s14, s15, s16, s17, s18, s19, s20, s21, s22, s23, s24, s25, s26, s27, s28, s29, s30, s31, s32, s33, s34, s35, s36, s37, s38, s39, s40, s41, s42, s43, s44, s45, s46, s47, s48, s49, s50, s51, s52, s53], defers := ds } w.drew := by
  have hlt : g < w.heap.size := (Array.getElem?_eq_some_iff.1 hg).1
  have HLT := Lib.hid hlt
  have HRX := Lib.hid (fun (w1 : World) (hh : w1.heap[g]? = some (.cells (A ++ (x.enc ++ (y.enc ++ S))).toArray 54 (0, 0))) => range_seg hh hA)
  have HRY := Lib.hid (fun (w1 : World) (hh : w1.heap[g]? = some (.cells (A ++ (x.enc ++ (y.enc ++ S))).toArray 54 (0, 0))) => range_seg (A := A ++ x.enc) (X := y.enc) (S := S) (o := 36) (by rw [List.append_assoc]; exact hh) (by rw [List.length_append, hA]; rfl))
  have HS50 := Lib.hid (fun (z : Ev) => (show (Tryz.prog.info? 50).map (·.size) = some z.enc.length from (by kernel_rfl : (Tryz.prog.info? 50).map (·.size) = some 7)))
  have HO := Lib.hid Ev.one
  have HA := Lib.hid hA
  have hd0 : Below w.heap.size w w.drew := (Below.refl _ _).drew
  have HCX := Lib.hid (fun (w1 : World) (hb : Below w.heap.size w w1) => refEvClone_calls x w1 (Ev.keeps _ _ _ hb hx) hfx.1 hfx.2)
  have HCY := Lib.hid (fun (w1 : World) (hb : Below w.heap.size w w1) => refEvClone_calls y w1 (Ev.keeps _ _ _ hb hy) hfy.1 hfy.2)
  have HG := Lib.hid (fun (w1 : World) (hb : Below w.heap.size w w1) => (hb.block g hlt).trans hg)
  have HP := Lib.hid hQp
  -- behind both copies
  have HE := Lib.hid (fun (w1 w2 : World) (x' y' : Ev) (u0 u1 u2 u3 u4 u5 u6 u7 : Value) (h1 : Below w.heap.size w w1) (hyc : y'.c = y.c) (hyl : y'.lies w1) (hyu : ∀ b, y'.uses b → w.heap.size ≤ b) (h2 : Below w1.heap.size w1 w2) (hxc : x'.c = x.c) (hxl : x'.lies w2) (hxu : ∀ b, x'.uses b → w1.heap.size ≤ b) => (show
      ∃ hg2 : w2.heap[g]? = some (.cells (A ++ (x.enc ++ (y.enc ++ S))).toArray 54 (0, 0)), (w2.setRow g (A ++ (y'.enc ++ (y.enc ++ S))).toArray).heap[g]? = some (.cells ((A ++ y'.enc) ++ (y.enc ++ S)).toArray 54 (0, 0)) ∧ Q .normal { tmps := #[s0, s1, s2, s3, s4, .pointer (some ⟨g, 0, none⟩), s6, s7, s8, s9, s10, s11, s12, s13, s14, s15, s16, s17, s18, s19, s20, s21, s22, s23, s24, s25, s26, s27, s28, s29, s30, s31, s32, s33, s34, u0, u1, u2, u3, u4, u5, u6, u7, s43, s44, s45, s46, s47, s48, s49, s50, s51, s52, s53], defers := ds } ((w2.setRow g (A ++ (y'.enc ++ (y.enc ++ S))).toArray).setRow g ((A ++ y'.enc) ++ (x'.enc ++ S)).toArray) from by
    have h12 : Below w.heap.size w w2 := h1.trans (h2.mono h1.size)
    have hg2 := (h12.block g hlt).trans hg
    have hg3 := setRow_heap w2 g _ (A ++ (y'.enc ++ (y.enc ++ S))).toArray _ _ hg2
    have hg4 := setRow_heap _ g _ ((A ++ y'.enc) ++ (x'.enc ++ S)).toArray _ _ hg3
    have ha : Aside w2 g ((w2.setRow g (A ++ (y'.enc ++ (y.enc ++ S))).toArray).setRow g ((A ++ y'.enc) ++ (x'.enc ++ S)).toArray) := (aside_row _ _ _).trans (by rw [size_row]; exact Nat.le_refl _) (aside_row _ _ _)
    have hsz : ((w2.setRow g (A ++ (y'.enc ++ (y.enc ++ S))).toArray).setRow g ((A ++ y'.enc) ++ (x'.enc ++ S)).toArray).heap.size = w2.heap.size := by rw [size_row, size_row]
    have fr : ∀ (z : Ev), z.lies w2 → (∀ b, z.uses b → w.heap.size ≤ b) → z.lies ((w2.setRow g (A ++ (y'.enc ++ (y.enc ++ S))).toArray).setRow g ((A ++ y'.enc) ++ (x'.enc ++ S)).toArray) := fun z hz hu =>
      Ev.frame hz (by rw [hsz]; exact Nat.le_refl _) fun b hb => ha b (Ev.uses_lt hz hb) (by have := hu b hb; omega)
    have hxu' : ∀ b, x'.uses b → w.heap.size ≤ b := fun b hb => Nat.le_trans h1.size (hxu b hb)
    refine ⟨hg2, by rw [List.append_assoc]; exact hg3, h _ x' y' u0 u1 u2 u3 u4 u5 u6 u7 hxc hyc (fr x' hxl hxu') (fr y' (Ev.keeps _ _ _ h2 hyl) hyu) hxu' hyu (by rw [List.append_assoc] at hg4; rw [List.append_assoc]; exact hg4) (grown_trans (grown_below h12) (grown_trans (grown_row _ _ _) (grown_row _ _ _)))⟩))
  clear h hg hA hx hy hfx hfy hQp
  generalize hO : fnOps Tryz.f21 9 = os
  have hO' : (fnOps Tryz.f21 9).toList = os.toList := by rw [hO]
  conv at hO' => lhs; whnf
  clear hO
  obtain ⟨l⟩ := os
  change _ = l at hO'
  subst hO'

  refine wpAnyH_take (i := 0) (v := .pointer (some ⟨g, 36, none⟩)) rfl (by kernel_rfl) (by kernel_rfl) (by kernel_rfl) (fun c a' w' hh => HP.out c _ _ w' hh) (.inl ⟨by rfl, fun w' _ => by go_simp⟩) trivial ?_
  try simp only [Act.put, List.getElem_toArray, List.getElem_cons_zero, List.getElem_cons_succ, List.setIfInBounds_toArray, List.set_cons_zero, List.set_cons_succ, Array.toArray_toList]
  refine wpAnyH_take (i := 3) (v := .pointer (some ⟨g, 29, none⟩)) rfl (by kernel_rfl) (by kernel_rfl) (by kernel_rfl) (fun c a' w' hh => HP.out c _ _ w' hh) (.inl ⟨by rfl, fun w' _ => by go_simp⟩) trivial ?_
  try simp only [Act.put, List.getElem_toArray, List.getElem_cons_zero, List.getElem_cons_succ, List.setIfInBounds_toArray, List.set_cons_zero, List.set_cons_succ, Array.toArray_toList]
  refine wpAnyH_ready (rs := [1, 4]) (by kernel_rfl) (by simp) ?_
  refine AllReadyH.cons rfl (fun K hK => ?_) (AllReadyH.cons rfl (fun K hK => ?_) AllReadyH.nil)
  · skip
    rw [if_pos (by rfl)]
    refine wp_load_mid 50 (.tmp 35) rfl g 36 rfl y.enc _ (HRY.out w.drew (HG.out _ hd0)) Tryz.underlying50 rfl (HS50.out y) ?_
    refine hK.out _ _ trivial (fun _ => ?_)
    clear hK
    try simp only [Act.put, List.getElem_toArray, List.getElem_cons_zero, List.getElem_cons_succ, List.setIfInBounds_toArray, List.set_cons_zero, List.set_cons_succ, Array.toArray_toList]
    refine wpAnyH_ready (rs := [2, 4]) (by kernel_rfl) (by simp) ?_
    refine AllReadyH.cons rfl (fun K hK => ?_) (AllReadyH.cons rfl (fun K hK => ?_) AllReadyH.nil)
    · skip
      go_simp
      refine (HCY.out _ hd0).mono ?_
      rintro e w1 ⟨y', rfl, hyc, hyl, hyu, hb1⟩
      have hd1 : Below w.heap.size w w1 := hd0.trans (hb1.mono hd0.size)
      have HYC := Lib.hid hyc; have HYL := Lib.hid hyl; have HYU := Lib.hid (fun b hb => Nat.le_trans hd0.size (hyu b hb))
      clear hyc hyl hyu hb1
      go_wp2_with fail
      refine hK.out _ _ trivial (fun _ => ?_)
      clear hK
      try simp only [Act.put, List.getElem_toArray, List.getElem_cons_zero, List.getElem_cons_succ, List.setIfInBounds_toArray, List.set_cons_zero, List.set_cons_succ, Array.toArray_toList]
      refine wpAnyH_ready (rs := [4]) (by kernel_rfl) (by simp) ?_
      refine AllReadyH.cons rfl (fun K hK => ?_) AllReadyH.nil
      rw [if_pos (by rfl)]
      refine wp_load_mid 50 (.tmp 38) rfl g 29 rfl x.enc _ (HRX.out w1 (HG.out _ hd1)) Tryz.underlying50 rfl (HS50.out x) ?_
      refine hK.out _ _ trivial (fun _ => ?_)
      clear hK
      try simp only [Act.put, List.getElem_toArray, List.getElem_cons_zero, List.getElem_cons_succ, List.setIfInBounds_toArray, List.set_cons_zero, List.set_cons_succ, Array.toArray_toList]
      refine wpAnyH_take (i := 6) (v := .pointer (some ⟨g, 29, none⟩)) rfl (by kernel_rfl) (by kernel_rfl) (by kernel_rfl) (fun c a' w' hh => HP.out c _ _ w' hh) (.inl ⟨by rfl, fun w' _ => by go_simp⟩) trivial ?_
      try simp only [Act.put, List.getElem_toArray, List.getElem_cons_zero, List.getElem_cons_succ, List.setIfInBounds_toArray, List.set_cons_zero, List.set_cons_succ, Array.toArray_toList]
      refine wpAnyH_ready (rs := [5]) (by kernel_rfl) (by simp) ?_
      refine AllReadyH.cons rfl (fun K hK => ?_) AllReadyH.nil
      go_simp
      refine (HCX.out _ hd1).mono ?_
      rintro e w2 ⟨x', rfl, hxc, hxl, hxu, hb2⟩
      have HEE := Lib.hid (fun u0 u1 u2 u3 u4 u5 u6 u7 => HE.out w1 w2 x' y' u0 u1 u2 u3 u4 u5 u6 u7 hd1 HYC.out HYL.out HYU.out hb2 hxc hxl hxu)
      obtain ⟨hg2, hg3, _⟩ := HEE.out s0 s0 s0 s0 s0 s0 s0 s0
      have HG2 := Lib.hid hg2; have HG3 := Lib.hid hg3
      clear hxc hxl hxu hb2 hg2 hg3
      go_wp2_with fail
      refine hK.out _ _ trivial (fun _ => ?_)
      clear hK
      try simp only [Act.put, List.getElem_toArray, List.getElem_cons_zero, List.getElem_cons_succ, List.setIfInBounds_toArray, List.set_cons_zero, List.set_cons_succ, Array.toArray_toList]
      refine wpAnyH_ready (rs := [7]) (by kernel_rfl) (by simp) ?_
      refine AllReadyH.cons rfl (fun K hK => ?_) AllReadyH.nil
      rw [if_pos (by rfl)]
      refine wp_store_seg 50 (.tmp 41) (.tmp 37) rfl g 29 y'.enc rfl rfl A x.enc (y.enc ++ S) 54 HG2.out HA.out rfl (HS50.out y') (HO.out y') ?_
      refine hK.out _ _ trivial (fun _ => ?_)
      clear hK
      try simp only [Act.put, List.getElem_toArray, List.getElem_cons_zero, List.getElem_cons_succ, List.setIfInBounds_toArray, List.set_cons_zero, List.set_cons_succ, Array.toArray_toList]
      refine wpAnyH_take (i := 8) (v := .pointer (some ⟨g, 36, none⟩)) rfl (by kernel_rfl) (by kernel_rfl) (by kernel_rfl) (fun c a' w' hh => HP.out c _ _ w' hh) (.inl ⟨by rfl, fun w' _ => by go_simp⟩) trivial ?_
      try simp only [Act.put, List.getElem_toArray, List.getElem_cons_zero, List.getElem_cons_succ, List.setIfInBounds_toArray, List.set_cons_zero, List.set_cons_succ, Array.toArray_toList]
      refine wpAnyH_ready (rs := [9]) (by kernel_rfl) (by simp) ?_
      refine AllReadyH.cons rfl (fun K hK => ?_) AllReadyH.nil
      rw [if_pos (by rfl)]
      refine wp_store_seg 50 (.tmp 42) (.tmp 40) rfl g 36 x'.enc rfl rfl (A ++ y'.enc) y.enc S 54 HG3.out (by rw [List.length_append, HA.out]; rfl) rfl (HS50.out x') (HO.out x') ?_
      refine hK.out _ _ trivial (fun _ => ?_)
      clear hK
      try simp only [Act.put, List.getElem_toArray, List.getElem_cons_zero, List.getElem_cons_succ, List.setIfInBounds_toArray, List.set_cons_zero, List.set_cons_succ, Array.toArray_toList]
      refine wpAnyH_done (by kernel_rfl) ?_ _
      exact (HEE.out _ _ _ _ _ _ _ _).2.2
    · skip
      rw [if_pos (by rfl)]
      refine wp_load_mid 50 (.tmp 38) rfl g 29 rfl x.enc _ (HRX.out w.drew (HG.out _ hd0)) Tryz.underlying50 rfl (HS50.out x) ?_
      refine hK.out _ _ trivial (fun _ => ?_)
      clear hK
      try simp only [Act.put, List.getElem_toArray, List.getElem_cons_zero, List.getElem_cons_succ, List.setIfInBounds_toArray, List.set_cons_zero, List.set_cons_succ, Array.toArray_toList]
      refine wpAnyH_ready (rs := [2]) (by kernel_rfl) (by simp) ?_
      refine AllReadyH.cons rfl (fun K hK => ?_) AllReadyH.nil
      go_simp
      refine (HCY.out _ hd0).mono ?_
      rintro e w1 ⟨y', rfl, hyc, hyl, hyu, hb1⟩
      have hd1 : Below w.heap.size w w1 := hd0.trans (hb1.mono hd0.size)
      have HYC := Lib.hid hyc; have HYL := Lib.hid hyl; have HYU := Lib.hid (fun b hb => Nat.le_trans hd0.size (hyu b hb))
      clear hyc hyl hyu hb1
      go_wp2_with fail
      refine hK.out _ _ trivial (fun _ => ?_)
      clear hK
      try simp only [Act.put, List.getElem_toArray, List.getElem_cons_zero, List.getElem_cons_succ, List.setIfInBounds_toArray, List.set_cons_zero, List.set_cons_succ, Array.toArray_toList]
      refine wpAnyH_take (i := 6) (v := .pointer (some ⟨g, 29, none⟩)) rfl (by kernel_rfl) (by kernel_rfl) (by kernel_rfl) (fun c a' w' hh => HP.out c _ _ w' hh) (.inl ⟨by rfl, fun w' _ => by go_simp⟩) trivial ?_
      try simp only [Act.put, List.getElem_toArray, List.getElem_cons_zero, List.getElem_cons_succ, List.setIfInBounds_toArray, List.set_cons_zero, List.set_cons_succ, Array.toArray_toList]
      refine wpAnyH_ready (rs := [5]) (by kernel_rfl) (by simp) ?_
      refine AllReadyH.cons rfl (fun K hK => ?_) AllReadyH.nil
      go_simp
      refine (HCX.out _ hd1).mono ?_
      rintro e w2 ⟨x', rfl, hxc, hxl, hxu, hb2⟩
      have HEE := Lib.hid (fun u0 u1 u2 u3 u4 u5 u6 u7 => HE.out w1 w2 x' y' u0 u1 u2 u3 u4 u5 u6 u7 hd1 HYC.out HYL.out HYU.out hb2 hxc hxl hxu)
      obtain ⟨hg2, hg3, _⟩ := HEE.out s0 s0 s0 s0 s0 s0 s0 s0
      have HG2 := Lib.hid hg2; have HG3 := Lib.hid hg3
      clear hxc hxl hxu hb2 hg2 hg3
      go_wp2_with fail
      refine hK.out _ _ trivial (fun _ => ?_)
      clear hK
      try simp only [Act.put, List.getElem_toArray, List.getElem_cons_zero, List.getElem_cons_succ, List.setIfInBounds_toArray, List.set_cons_zero, List.set_cons_succ, Array.toArray_toList]
      refine wpAnyH_ready (rs := [7]) (by kernel_rfl) (by simp) ?_
      refine AllReadyH.cons rfl (fun K hK => ?_) AllReadyH.nil
      rw [if_pos (by rfl)]
      refine wp_store_seg 50 (.tmp 41) (.tmp 37) rfl g 29 y'.enc rfl rfl A x.enc (y.enc ++ S) 54 HG2.out HA.out rfl (HS50.out y') (HO.out y') ?_
      refine hK.out _ _ trivial (fun _ => ?_)
      clear hK
      try simp only [Act.put, List.getElem_toArray, List.getElem_cons_zero, List.getElem_cons_succ, List.setIfInBounds_toArray, List.set_cons_zero, List.set_cons_succ, Array.toArray_toList]
      refine wpAnyH_take (i := 8) (v := .pointer (some ⟨g, 36, none⟩)) rfl (by kernel_rfl) (by kernel_rfl) (by kernel_rfl) (fun c a' w' hh => HP.out c _ _ w' hh) (.inl ⟨by rfl, fun w' _ => by go_simp⟩) trivial ?_
      try simp only [Act.put, List.getElem_toArray, List.getElem_cons_zero, List.getElem_cons_succ, List.setIfInBounds_toArray, List.set_cons_zero, List.set_cons_succ, Array.toArray_toList]
      refine wpAnyH_ready (rs := [9]) (by kernel_rfl) (by simp) ?_
      refine AllReadyH.cons rfl (fun K hK => ?_) AllReadyH.nil
      rw [if_pos (by rfl)]
      refine wp_store_seg 50 (.tmp 42) (.tmp 40) rfl g 36 x'.enc rfl rfl (A ++ y'.enc) y.enc S 54 HG3.out (by rw [List.length_append, HA.out]; rfl) rfl (HS50.out x') (HO.out x') ?_
      refine hK.out _ _ trivial (fun _ => ?_)
      clear hK
      try simp only [Act.put, List.getElem_toArray, List.getElem_cons_zero, List.getElem_cons_succ, List.setIfInBounds_toArray, List.set_cons_zero, List.set_cons_succ, Array.toArray_toList]
      refine wpAnyH_done (by kernel_rfl) ?_ _
      exact (HEE.out _ _ _ _ _ _ _ _).2.2
  · skip
    rw [if_pos (by rfl)]
    refine wp_load_mid 50 (.tmp 38) rfl g 29 rfl x.enc _ (HRX.out w.drew (HG.out _ hd0)) Tryz.underlying50 rfl (HS50.out x) ?_
    refine hK.out _ _ trivial (fun _ => ?_)
    clear hK
    try simp only [Act.put, List.getElem_toArray, List.getElem_cons_zero, List.getElem_cons_succ, List.setIfInBounds_toArray, List.set_cons_zero, List.set_cons_succ, Array.toArray_toList]
    refine wpAnyH_ready (rs := [1]) (by kernel_rfl) (by simp) ?_
    refine AllReadyH.cons rfl (fun K hK => ?_) AllReadyH.nil
    rw [if_pos (by rfl)]
    refine wp_load_mid 50 (.tmp 35) rfl g 36 rfl y.enc _ (HRY.out w.drew (HG.out _ hd0)) Tryz.underlying50 rfl (HS50.out y) ?_
    refine hK.out _ _ trivial (fun _ => ?_)
    clear hK
    try simp only [Act.put, List.getElem_toArray, List.getElem_cons_zero, List.getElem_cons_succ, List.setIfInBounds_toArray, List.set_cons_zero, List.set_cons_succ, Array.toArray_toList]
    refine wpAnyH_ready (rs := [2]) (by kernel_rfl) (by simp) ?_
    refine AllReadyH.cons rfl (fun K hK => ?_) AllReadyH.nil
    go_simp
    refine (HCY.out _ hd0).mono ?_
    rintro e w1 ⟨y', rfl, hyc, hyl, hyu, hb1⟩
    have hd1 : Below w.heap.size w w1 := hd0.trans (hb1.mono hd0.size)
    have HYC := Lib.hid hyc; have HYL := Lib.hid hyl; have HYU := Lib.hid (fun b hb => Nat.le_trans hd0.size (hyu b hb))
    clear hyc hyl hyu hb1
    go_wp2_with fail
    refine hK.out _ _ trivial (fun _ => ?_)
    clear hK
    try simp only [Act.put, List.getElem_toArray, List.getElem_cons_zero, List.getElem_cons_succ, List.setIfInBounds_toArray, List.set_cons_zero, List.set_cons_succ, Array.toArray_toList]
    refine wpAnyH_take (i := 6) (v := .pointer (some ⟨g, 29, none⟩)) rfl (by kernel_rfl) (by kernel_rfl) (by kernel_rfl) (fun c a' w' hh => HP.out c _ _ w' hh) (.inl ⟨by rfl, fun w' _ => by go_simp⟩) trivial ?_
    try simp only [Act.put, List.getElem_toArray, List.getElem_cons_zero, List.getElem_cons_succ, List.setIfInBounds_toArray, List.set_cons_zero, List.set_cons_succ, Array.toArray_toList]
    refine wpAnyH_ready (rs := [5]) (by kernel_rfl) (by simp) ?_
    refine AllReadyH.cons rfl (fun K hK => ?_) AllReadyH.nil
    go_simp
    refine (HCX.out _ hd1).mono ?_
    rintro e w2 ⟨x', rfl, hxc, hxl, hxu, hb2⟩
    have HEE := Lib.hid (fun u0 u1 u2 u3 u4 u5 u6 u7 => HE.out w1 w2 x' y' u0 u1 u2 u3 u4 u5 u6 u7 hd1 HYC.out HYL.out HYU.out hb2 hxc hxl hxu)
    obtain ⟨hg2, hg3, _⟩ := HEE.out s0 s0 s0 s0 s0 s0 s0 s0
    have HG2 := Lib.hid hg2; have HG3 := Lib.hid hg3
    clear hxc hxl hxu hb2 hg2 hg3
    go_wp2_with fail
    refine hK.out _ _ trivial (fun _ => ?_)
    clear hK
    try simp only [Act.put, List.getElem_toArray, List.getElem_cons_zero, List.getElem_cons_succ, List.setIfInBounds_toArray, List.set_cons_zero, List.set_cons_succ, Array.toArray_toList]
    refine wpAnyH_ready (rs := [7]) (by kernel_rfl) (by simp) ?_
    refine AllReadyH.cons rfl (fun K hK => ?_) AllReadyH.nil
    rw [if_pos (by rfl)]
    refine wp_store_seg 50 (.tmp 41) (.tmp 37) rfl g 29 y'.enc rfl rfl A x.enc (y.enc ++ S) 54 HG2.out HA.out rfl (HS50.out y') (HO.out y') ?_
    refine hK.out _ _ trivial (fun _ => ?_)
    clear hK
    try simp only [Act.put, List.getElem_toArray, List.getElem_cons_zero, List.getElem_cons_succ, List.setIfInBounds_toArray, List.set_cons_zero, List.set_cons_succ, Array.toArray_toList]
    refine wpAnyH_take (i := 8) (v := .pointer (some ⟨g, 36, none⟩)) rfl (by kernel_rfl) (by kernel_rfl) (by kernel_rfl) (fun c a' w' hh => HP.out c _ _ w' hh) (.inl ⟨by rfl, fun w' _ => by go_simp⟩) trivial ?_
    try simp only [Act.put, List.getElem_toArray, List.getElem_cons_zero, List.getElem_cons_succ, List.setIfInBounds_toArray, List.set_cons_zero, List.set_cons_succ, Array.toArray_toList]
    refine wpAnyH_ready (rs := [9]) (by kernel_rfl) (by simp) ?_
    refine AllReadyH.cons rfl (fun K hK => ?_) AllReadyH.nil
    rw [if_pos (by rfl)]
    refine wp_store_seg 50 (.tmp 42) (.tmp 40) rfl g 36 x'.enc rfl rfl (A ++ y'.enc) y.enc S 54 HG3.out (by rw [List.length_append, HA.out]; rfl) rfl (HS50.out x') (HO.out x') ?_
    refine hK.out _ _ trivial (fun _ => ?_)
    clear hK
    try simp only [Act.put, List.getElem_toArray, List.getElem_cons_zero, List.getElem_cons_succ, List.setIfInBounds_toArray, List.set_cons_zero, List.set_cons_succ, Array.toArray_toList]
    refine wpAnyH_done (by kernel_rfl) ?_ _
    exact (HEE.out _ _ _ _ _ _ _ _).2.2
end Go.Proofs.YtnlnmbcaongehaaGreatDoor
namespace Go.Proofs.YtnlnmbcaongehaaGreatDoor
open Go.RowKit
set_option maxRecDepth 100000 in
set_option maxHeartbeats 3200000 in
theorem app_p {Q : Exit → Act → World → Prop} (g o B n : Nat) (Z xs : List Value) (v : Value) (W : World) (hZ : Z.length = 59) (h1 : ∀ u ∈ Z, u.oneCell' = true) (hb : Boxed W o 29 v) (hg : W.heap[g]? = some (.cells Z.toArray 54 (0, 0))) (hB : B ≤ W.heap.size) (hov : v.ownBlock ≠ some o) (hown : W.ownsRow B 54 59 v n xs) (hn : n ≤ 40000000) (ds : List Deferred) (s0 s1 s2 s4 s6 s7 s8 s9 s10 s11 s12 s13 s14 s15 s16 s17 s18 s19 s20 s21 s22 s23 s24 s25 s26 s27 s28 s29 s30 s31 s32 s33 s34 s35 s36 s37 s38 s39 s40 s41 s42 s43 s44 s45 s46 : Value)
    (h : ∀ (v' : Value) (w2 : World) (y42 y43 y44 y45 : Value), w2.ownsRow B 54 59 v' (n + 1) (xs ++ Z) → (W.alloc (.cells Z.toArray 54)).grownBy w2 v.ownBlock → (v'.ownBlock = v.ownBlock ∨ v'.ownBlock = some (W.heap.size + 1)) → Q .normal { tmps := #[s0, s1, s2, .pointer (some ⟨o, 0, none⟩), s4, .pointer (some ⟨g, 0, none⟩), s6, s7, s8, s9, s10, s11, s12, s13, s14, s15, s16, s17, s18, s19, s20, s21, s22, s23, s24, s25, s26, s27, s28, s29, s30, s31, s32, s33, s34, s35, s36, s37, s38, s39, s40, s41, y42, y43, y44, y45, s46], defers := ds } (w2.setCell ⟨o, 0, none⟩ v')) :
    wpList Tryz.prog (fnOps Tryz.f17 9) Q (fnOps Tryz.f17 9).toList { tmps := #[s0, s1, s2, .pointer (some ⟨o, 0, none⟩), s4, .pointer (some ⟨g, 0, none⟩), s6, s7, s8, s9, s10, s11, s12, s13, s14, s15, s16, s17, s18, s19, s20, s21, s22, s23, s24, s25, s26, s27, s28, s29, s30, s31, s32, s33, s34, s35, s36, s37, s38, s39, s40, s41, s42, s43, s44, s45, s46], defers := ds } W := by
  have co := hb.cell
  have HRG := Lib.hid (range_row hg)
  have HZ := Lib.hid hZ
  have HSZ := Lib.hid (show (Tryz.prog.info? 54).map (·.size) = some Z.length by rw [hZ]; kernel_rfl)
  have HBX := Lib.hid (fun (w2 : World) (hgr : (W.alloc (.cells Z.toArray 54)).grownBy w2 v.ownBlock) => ((hb.alloc _).kept hgr (fun e => hov e.symm)))
  have HOWN := Lib.hid hown
  have H1 := Lib.hid h1
  have HH := Lib.hid h
  have HBB := Lib.hid hB
  have HN := Lib.hid hn
  obtain ⟨j0, jz, hj, hy0, hy1, hy2, hy3⟩ := chgInfo
  have JI := Lib.hid hj; have J0 := Lib.hid hy0; have J1 := Lib.hid hy1; have J2 := Lib.hid hy2; have J3 := Lib.hid hy3
  clear hj hy0 hy1 hy2 hy3 hb hZ h1 hown h hg hov hB hn
  generalize hO : fnOps Tryz.f17 9 = os
  have hO' : (fnOps Tryz.f17 9).toList = os.toList := by rw [hO]
  conv at hO' => lhs; whnf
  rw [← hO']
  clear hO'
  go_wp2_with (first
    | (refine wpList_load_mid rfl 54 (.tmp 5) rfl g 0 rfl Z _ HRG.out Tryz.underlying54 rfl HSZ.out ?_)
    | (refine wpList_literal_row rfl 29 54 (.tmp 43) rfl Z rfl j0 jz 59 HZ.out (by decide) (by decide) Tryz.underlying29 JI.out J0.out J1.out ?_)
    | (at_builtin; refine wpList_append_at _ _ rfl (.tmp 42) (.tmp 44) 29 rfl B 54 j0 jz 59 568 Tryz.underlying29 JI.out J0.out J1.out J2.out J3.out (by decide) _ _ _ rfl HOWN.out _ rfl rfl ?hsz ?h1 ?h63 ?hb ?hbase ?_))
  case hsz => simpa using HZ.out
  case h1 => exact H1.out
  case h63 => have := HN.out; unfold maxLen; omega
  case hb => have := HN.out; omega
  case hbase => exact HBB.out
  intro v' w2 hown hgrow hat
  have hsh : ∃ a' l' c', v' = .slice a' l' c' := by
    rcases hown.2 with ⟨rfl, _⟩ | ⟨g', cap', cur', rfl, _⟩
    · exact ⟨_, _, _, rfl⟩
    · exact ⟨_, _, _, rfl⟩
  obtain ⟨a', l', c', rfl⟩ := hsh
  have hbx := HBX.out w2 hgrow
  have co2 := hbx.cell
  have zo2 := hbx.frozen
  have R := Lib.hid (fun y42 y43 y44 y45 => HH.out _ w2 y42 y43 y44 y45 hown hgrow hat)
  clear hown hgrow hat hbx co
  go_wp2_with fail
  exact R.out _ _ _ _
end Go.Proofs.YtnlnmbcaongehaaGreatDoor
namespace Go.Proofs.YtnlnmbcaongehaaGreatDoor
open Go.RowKit
theorem InvMem.app {B : Nat} {v v' : Value} {ys : List Chg} {z : Chg} {W5 w2 : World} {ob : Obj} (hm : InvMem B v ys W5) (hz : z.lies W5) (hzu : ∀ b, z.uses b → v.ownBlock ≠ some b ∧ B ≤ b) (hown : w2.ownsRow B 54 59 v' (ys.length + 1) (ys.flatMap Chg.enc ++ z.enc)) (hgr : (W5.alloc ob).grownBy w2 v.ownBlock) (hv' : v'.ownBlock = v.ownBlock ∨ v'.ownBlock = some (W5.heap.size + 1)) : InvMem B v' (ys ++ [z]) w2 := by
  have fr : ∀ y : Chg, y.lies W5 → (∀ b, y.uses b → v.ownBlock ≠ some b) → y.lies w2 := fun y hy hu => Chg.deep.frame y W5 w2 hy (by have := hgr.size; simp at this; omega) fun b hb => by
    have hlt := Chg.deep.lt y W5 b hy hb
    exact (hgr.block b (by simp; omega) (fun e => hu b hb e.symm)).trans (Below.heap_alloc _ _ _ hlt)
  have ne : ∀ y : Chg, y.lies W5 → (∀ b, y.uses b → v.ownBlock ≠ some b) → ∀ b, y.uses b → v'.ownBlock ≠ some b := fun y hy hu b hb e => by
    have hlt := Chg.deep.lt y W5 b hy hb
    rcases hv' with h | h
    · exact hu b hb (h.symm.trans e)
    · rw [h] at e
      have := Option.some.inj e
      omega
  refine ⟨?_, fun y hy => ?_⟩
  · rw [List.length_append, List.flatMap_append, List.flatMap_cons, List.flatMap_nil, List.append_nil]
    exact hown
  · rcases List.mem_append.1 hy with hy | hy
    · obtain ⟨h1, h2⟩ := hm.2 y hy
      exact ⟨fr y h1 fun b hb => (h2 b hb).1, fun b hb => ⟨ne y h1 (fun b hb => (h2 b hb).1) b hb, (h2 b hb).2⟩⟩
    · obtain rfl := List.mem_singleton.1 hy
      exact ⟨fr y hz fun b hb => (hzu b hb).1, fun b hb => ⟨ne y hz (fun b hb => (hzu b hb).1) b hb, (hzu b hb).2⟩⟩
theorem InvMem.row {B : Nat} {v : Value} {ys : List Chg} {W : World} (h : InvMem B v ys W) {b : Nat} (hb : v.ownBlock = some b) : B ≤ b ∧ b < W.heap.size := by
  rcases h.1.2 with ⟨rfl, _⟩ | ⟨g, cap, cur, rfl, hB, hg, _⟩
  · cases hb
  · obtain rfl : g = b := by simpa [Value.ownBlock] using hb
    exact ⟨hB, (Array.getElem?_eq_some_iff.1 hg).1⟩
/-- The body of the first range over a function. -/
def rangeBody : Code → Option Code
  | .rangeFunc _ _ _ b => some b
  | .seq a b => (rangeBody a).orElse fun _ => rangeBody b
  | .block _ c => rangeBody c
  | _ => none
def codeOf (f : Func) : Code := (rangeBody (f.body.getD .skip)).getD .skip
/-- What a round leaves: the list has the change's inverse at its end; nothing below has turned but the list's variable; what is no cells lies as it lay. -/
def RoundTo (g o B : Nat) (x : Chg) (ys : List Chg) (W w' : World) : Prop :=
  ∃ (v' : Value) (z : Chg), z.c = invC x.c ∧ Boxed w' o 29 v' ∧ InvMem B v' (ys ++ [z]) w' ∧ w'.os = W.os ∧ w'.tape = W.tape ∧ w'.output = W.output ∧ W.heap.size ≤ w'.heap.size ∧
    (∀ b, b < B → b ≠ o → b < W.heap.size → w'.heap[b]? = W.heap[b]?) ∧ ∀ (k : Nat) (ob : Obj), W.heap[k]? = some ob → ob.isCells = false → w'.heap[k]? = some ob
set_option maxRecDepth 100000 in
set_option maxHeartbeats 6400000 in
theorem invRound_p {l n : Nat} {Q : Exit → Act → World → Prop} (hQo : ¬ LetsOut Q) (hQp : ∀ c a a' w, Q (.panic c) a w → Q (.panic c) a' w) (g o B : Nat) (x : Chg) (v : Value) (ys : List Chg) (W : World)
    (hg : W.heap[g]? = some (.cells x.enc.toArray 54 (0, 0))) (hx : x.lies W) (hxu : ∀ b, x.uses b → b ≠ g) (hf : x.fits) (hb : Boxed W o 29 v) (hm : InvMem B v ys W) (hvg : v.ownBlock ≠ some g) (hyg : ∀ y ∈ ys, ¬ y.uses g) (hoB : o < B) (hBg : B ≤ g) (hn : ys.length ≤ 40000000) (ds : List Deferred) (s0 s1 s2 s4 s6 s7 s8 s9 s10 s11 s12 s13 s14 s15 s16 s17 s18 s19 s20 s21 s22 s23 s24 s25 s26 s27 s28 s29 s30 s31 s32 s33 s34 s35 s36 s37 s38 s39 s40 s41 s42 s43 s44 s45 s46 : Value)
    (h : ∀ (a' : Act) (w' : World), RoundTo g o B x ys W w' → Q .normal a' w') :
    (codeOf Tryz.f17).wpIn (Fence.wide.inRound l) n Tryz.prog Q { tmps := #[s0, s1, s2, .pointer (some ⟨o, 0, none⟩), s4, .pointer (some ⟨g, 0, none⟩), s6, s7, s8, s9, s10, s11, s12, s13, s14, s15, s16, s17, s18, s19, s20, s21, s22, s23, s24, s25, s26, s27, s28, s29, s30, s31, s32, s33, s34, s35, s36, s37, s38, s39, s40, s41, s42, s43, s44, s45, s46], defers := ds } W := by
  have hgl : g < W.heap.size := (Array.getElem?_eq_some_iff.1 hg).1
  have hmm : Tryz.prog.follows Departure.mixedOrders = true := by kernel_rfl
  have hQp1 : ∀ (K : Act → World → Prop) (c : List PanicEntry) (a a' : Act) (w : World), Exit.then K (Exit.inBlock 1 Q) (.panic c) a w → Exit.then K (Exit.inBlock 1 Q) (.panic c) a' w := fun K c a a' w h => hQp c a a' w h
  have hQ1 : ¬ LetsOut (Exit.inBlock 1 Q) := fun ⟨a, w, h⟩ => hQo ⟨a, w, h⟩
  have HH := Lib.hid h
  clear h
  obtain ⟨sec, id, name, ad, gn, oh, nh, rg, nr, oe, ne, oc, nc⟩ := x
  generalize hC : codeOf Tryz.f17 = C
  conv at hC => lhs; whnf
  rw [← hC]
  clear hC
  refine wpIn_block ?_
  -- the flags
  refine wpIn_seq ?_
  refine roundRegion (os := (fnOps Tryz.f17 4).toList) (Exit.then_lets hQ1) (by kernel_rfl) ?_
  refine flags_p g _ _ _ ad gn (oh.enc ++ (nh.enc ++ (rg.enc ++ (nr.enc ++ (oe.enc ++ (ne.enc ++ (oc.enc ++ nc.enc))))))) W hg ds _ _ _ _ _ _ _ _ _ _ _ _ _ _ _ _ _ _ _ _ _ _ _ _ _ _ _ _ _ _ _ _ _ _ _ _ _ _ _ _ _ _ _ _ _ _ ?_
  intro w1 y0 y1 y2 y3 y4 y5 hg1 hk1 hz1
  generalize hA1 : [Value.int .u8 sec, .int .i64 id, .string name, .bool gn, .bool ad] = A1
  have hg1' : w1.heap[g]? = some (.cells (A1 ++ (oh.enc ++ (nh.enc ++ (rg.enc ++ (nr.enc ++ (oe.enc ++ (ne.enc ++ (oc.enc ++ nc.enc)))))))).toArray 54 (0, 0)) := by rw [← hA1]; exact hg1
  have l1 : A1.length = 5 := by rw [← hA1]; rfl
  -- the headers
  refine wpIn_seq ?_
  refine roundRegion (os := (fnOps Tryz.f17 5).toList) (Exit.then_lets hQ1) (by kernel_rfl) ?_
  refine swapHd_p g A1 oh.enc nh.enc (rg.enc ++ (nr.enc ++ (oe.enc ++ (ne.enc ++ (oc.enc ++ nc.enc))))) w1 hg1' l1 rfl rfl (Hd.one _) (Hd.one _) ds _ _ _ _ _ _ _ _ _ _ _ _ _ _ _ _ _ _ _ _ _ _ _ _ _ _ _ _ _ _ _ _ _ _ _ _ _ _ _ _ _ _ _ _ _ _ ?_
  intro w2 z0 z1 z2 z3 z4 z5 hg2 hk2 hz2
  have l2 : (A1 ++ (nh.enc ++ oh.enc)).length = 15 := by rw [List.length_append, l1]; rfl
  have hg2' : w2.heap[g]? = some (.cells ((A1 ++ (nh.enc ++ oh.enc)) ++ (rg.enc ++ (nr.enc ++ (oe.enc ++ (ne.enc ++ (oc.enc ++ nc.enc)))))).toArray 54 (0, 0)) := by simp only [List.append_assoc]; exact hg2
  -- the regions
  refine wpIn_seq ?_
  refine roundRegion (os := (fnOps Tryz.f17 6).toList) (Exit.then_lets hQ1) (by kernel_rfl) ?_
  refine swapReg_p g _ rg.enc nr.enc (oe.enc ++ (ne.enc ++ (oc.enc ++ nc.enc))) w2 hg2' l2 rfl rfl (Reg.one _) (Reg.one _) ds _ _ _ _ _ _ _ _ _ _ _ _ _ _ _ _ _ _ _ _ _ _ _ _ _ _ _ _ _ _ _ _ _ _ _ _ _ _ _ _ _ _ _ _ _ _ ?_
  intro w3 a0 a1 a2 a3 a4 a5 hg3 hk3 hz3
  have l3 : ((A1 ++ (nh.enc ++ oh.enc)) ++ (nr.enc ++ rg.enc)).length = 29 := by rw [List.length_append, l2]; rfl
  have hg3' : w3.heap[g]? = some (.cells (((A1 ++ (nh.enc ++ oh.enc)) ++ (nr.enc ++ rg.enc)) ++ (oe.enc ++ (ne.enc ++ (oc.enc ++ nc.enc)))).toArray 54 (0, 0)) := by rw [List.append_assoc (A1 ++ (nh.enc ++ oh.enc)), List.append_assoc nr.enc]; exact hg3
  have k3 : W.grownBy w3 (some g) := grown_trans hk1 (grown_trans hk2 hk3)
  have xl : ∀ (e : Ev), e.lies W → (∀ b, e.uses b → b ≠ g) → e.lies w3 := fun e he hu => Ev.frame he k3.size fun b hb => k3.block b (Ev.uses_lt he hb) (fun e => hu b hb (Option.some.inj e))
  -- the events
  refine wpIn_seq ?_
  refine roundDrawn (ops := fnOps Tryz.f17 7) hmm (Exit.then_lets hQ1) (by kernel_rfl) (S := fun _ => True) ?_
  refine evs_p (hQp1 _) g _ (oc.enc ++ nc.enc) oe ne w3 hg3' l3 (xl oe hx.1 fun b hb => hxu b (.inl hb)) (xl ne hx.2 fun b hb => hxu b (.inr hb)) ⟨hf.1.2, hf.1.1⟩ ⟨hf.2.2, hf.2.1⟩ ds _ _ _ _ _ _ _ _ _ _ _ _ _ _ _ _ _ _ _ _ _ _ _ _ _ _ _ _ _ _ _ _ _ _ _ _ _ _ _ _ _ _ _ _ _ _ ?_
  intro w4 oe' ne' b0 b1 b2 b3 b4 b5 b6 b7 hoc hnc hol hnl hou hnu hg4 hk4
  have l4 : (((A1 ++ (nh.enc ++ oh.enc)) ++ (nr.enc ++ rg.enc)) ++ (ne'.enc ++ oe'.enc)).length = 43 := by rw [List.length_append, l3]; rfl
  have hg4' : w4.heap[g]? = some (.cells ((((A1 ++ (nh.enc ++ oh.enc)) ++ (nr.enc ++ rg.enc)) ++ (ne'.enc ++ oe'.enc)) ++ (oc.enc ++ (nc.enc ++ []))).toArray 54 (0, 0)) := by rw [List.append_nil, List.append_assoc ((A1 ++ (nh.enc ++ oh.enc)) ++ (nr.enc ++ rg.enc)), List.append_assoc ne'.enc]; exact hg4
  -- the comments
  refine wpIn_seq ?_
  refine roundRegion (os := (fnOps Tryz.f17 8).toList) (Exit.then_lets hQ1) (by kernel_rfl) ?_
  refine swapCm_p g _ oc.enc nc.enc [] w4 hg4' l4 rfl rfl (Cm.one _) (Cm.one _) ds _ _ _ _ _ _ _ _ _ _ _ _ _ _ _ _ _ _ _ _ _ _ _ _ _ _ _ _ _ _ _ _ _ _ _ _ _ _ _ _ _ _ _ _ _ _ ?_
  intro w5 d0 d1 d2 d3 d4 d5 hg5 hk5 hz5
  have k5 : W.grownBy w5 (some g) := grown_trans k3 (grown_trans hk4 hk5)
  obtain ⟨z, hz⟩ : ∃ z : Chg, z = ⟨sec, id, name, gn, ad, nh, oh, nr, rg, ne', oe', nc, oc⟩ := ⟨_, rfl⟩
  have hg5' : w5.heap[g]? = some (.cells z.enc.toArray 54 (0, 0)) := by
    rw [hg5, hz, ← hA1]
    simp only [Chg.enc, List.append_assoc, List.append_nil, List.cons_append, List.nil_append]
  have hzc : z.c = invC (Chg.c ⟨sec, id, name, ad, gn, oh, nh, rg, nr, oe, ne, oc, nc⟩) := by
    rw [hz]
    simp only [Chg.c, invC, hoc, hnc]
  have s3 : W.heap.size ≤ w3.heap.size := k3.size
  have el : ∀ (e : Ev), e.lies w4 → (∀ b, e.uses b → w3.heap.size ≤ b) → e.lies w5 := fun e he hu => Ev.frame he hk5.size fun b hb => hk5.block b (Ev.uses_lt he hb) (fun e => by have := hu b hb; have := Option.some.inj e; omega)
  have hzl : z.lies w5 := by rw [hz]; exact ⟨el ne' hnl hnu, el oe' hol hou⟩
  have hzu : ∀ b, z.uses b → W.heap.size ≤ b := fun b hb => by
    rw [hz] at hb
    rcases hb with hb | hb
    · exact Nat.le_trans s3 (hnu b hb)
    · exact Nat.le_trans s3 (hou b hb)
  have hm5 : InvMem B v ys w5 := hm.aside k5.size (Aside.of k5) hvg hyg
  have hb5 : Boxed w5 o 29 v := hb.kept k5 (by intro e; have := Option.some.inj e; omega)
  have hvo : v.ownBlock ≠ some o := fun e => by have := (hm.row e).1; omega
  -- the list
  refine roundRegion (os := (fnOps Tryz.f17 9).toList) hQ1 (by kernel_rfl) ?_
  refine app_p g o B ys.length z.enc (ys.flatMap Chg.enc) v w5 z.len (Chg.one z) hb5 hg5' (by have := hk1.size; have := k5.size; omega) hvo hm5.1 hn ds _ _ _ _ _ _ _ _ _ _ _ _ _ _ _ _ _ _ _ _ _ _ _ _ _ _ _ _ _ _ _ _ _ _ _ _ _ _ _ _ _ _ _ _ _ ?_
  intro v' w6 e42 e43 e44 e45 hown hgr hv'
  refine HH.out _ _ ?_
  have hm6 : InvMem B v' (ys ++ [z]) w6 := hm5.app hzl (fun b hb => ⟨fun e => by have := (hm.row e).2; have := hzu b hb; omega, by have := hzu b hb; omega⟩) hown hgr hv'
  have hb6 : Boxed w6 o 29 v := (hb5.alloc _).kept hgr (fun e => hvo e.symm)
  have hsz : (w5.alloc (.cells z.enc.toArray 54)).heap.size = w5.heap.size + 1 := World.size_alloc _ _
  have hs6 := hgr.size
  have k5s := k5.size
  have gs := grownBy_setCell' w6 o v'
  refine ⟨v', z, hzc, hb6.set _, hm6.frame gs.size fun b hb _ => ?_, ?_, ?_, ?_, ?_, fun b hb hbo hbl => ?_, fun k ob hk hob => ?_⟩
  · have : b ≠ o := by omega
    exact Below.heap_setCell _ _ _ _ (fun e => this e)
  · exact gs.os.trans (hgr.os.trans k5.os)
  · exact gs.tape.trans (hgr.tape.trans k5.tape)
  · exact gs.output.trans (hgr.output.trans k5.output)
  · have := gs.size
    omega
  · refine (gs.block b (by omega) (fun e => hbo (Option.some.inj e))).trans ((hgr.block b (by omega) (fun e => ?_)).trans ((Below.heap_alloc _ _ _ (by omega)).trans (k5.block b hbl (fun e => ?_))))
    · have := (hm.row e.symm).1
      omega
    · have := Option.some.inj e
      omega
  · have hkl : k < W.heap.size := (Array.getElem?_eq_some_iff.1 hk).1
    have nc : ∀ c t p, W.heap[k]? ≠ some (.cells c t p) := fun c t p e => by
      rw [hk] at e
      cases e
      cases hob
    have h5 : w5.heap[k]? = some ob := (k5.block k hkl (fun e => by
      obtain rfl := Option.some.inj e
      exact nc _ _ _ hg)).trans hk
    have h6 : w6.heap[k]? = some ob := (hgr.block k (by omega) (fun e => by
      obtain ⟨c, t, p, hc⟩ := hm.cells (.inl e.symm)
      exact nc _ _ _ hc)).trans ((Below.heap_alloc _ _ _ (by omega)).trans h5)
    exact (gs.block k (by omega) (fun e => by
      obtain rfl := Option.some.inj e
      exact nc _ _ _ hb)).trans h6
end Go.Proofs.YtnlnmbcaongehaaGreatDoor
