/- DiffLists: the changes between any two documents are the specified ones. Conditions: the arguments hold together at most 1048576 values and letters (the second form); the library's tables are as their text lays them (the card ties them). -/
import Derived.Deep.RegionHeld3
import Derived.Deep.DrawnRows
import Derived.Deep.MidRow
import Derived.Test.YtnlnmbcaongehaaGreatDoorRows
import Derived.Deep.Slices
import Derived.Deep.Fields
import Derived.ChangeSame
import Derived.WalkKit
import Derived.ProofKit
import Derived.OpenShut
import Derived.Deep.DeepHandedRow
import Derived.Deep.DeepWitnessRowRef
import Derived.Lib.LaidTab
import Derived.Lib.LaidU8T
import Derived.Stop.LaidErr
import Derived.Carry
import Derived.Shelf.Vars
import Derived.MakeChecks
import Derived.Test.YtnlnmbcaongehaaGreatDoorCards
import Derived.Test.YtnlnmbcaongehaaGreatDoorTie
import Derived.Test.YtnlnmbcaongehaaGreatDoorBase09
import Derived.Test.YtnlnmbcaongehaaGreatDoorL06
import Derived.Test.YtnlnmbcaongehaaGreatDoorBase08
import Derived.Test.YtnlnmbcaongehaaGreatDoorBase07
import Derived.Test.YtnlnmbcaongehaaGreatDoorBase06
import Derived.Test.YtnlnmbcaongehaaGreatDoorL00
import Derived.Test.YtnlnmbcaongehaaGreatDoorBase03
import Derived.Test.YtnlnmbcaongehaaGreatDoorBase02
import Derived.Test.YtnlnmbcaongehaaGreatDoorBase01
import Derived.Test.YtnlnmbcaongehaaGreatDoorBase00
import Derived.Test.YtnlnmbcaongehaaGreatDoorL07
import Derived.Test.YtnlnmbcaongehaaGreatDoorBase20
import Derived.Test.YtnlnmbcaongehaaGreatDoorBase18
import Derived.Test.YtnlnmbcaongehaaGreatDoorBase17
import Derived.Test.YtnlnmbcaongehaaGreatDoorBase16
import Derived.Test.YtnlnmbcaongehaaGreatDoorBase12
import Derived.Test.YtnlnmbcaongehaaGreatDoorBase10
import Derived.Test.YtnlnmbcaongehaaGreatDoorBase04
import Derived.Test.YtnlnmbcaongehaaGreatDoorBase11
import Derived.Test.YtnlnmbcaongehaaGreatDoorBase15
import Derived.Test.YtnlnmbcaongehaaGreatDoorBase14
import Derived.Test.YtnlnmbcaongehaaGreatDoorBase13
import Derived.Test.YtnlnmbcaongehaaGreatDoorBase05
import Derived.Test.YtnlnmbcaongehaaGreatDoorBase19
set_option linter.unusedVariables false
set_option linter.unusedSimpArgs false
namespace Go.Proofs.YtnlnmbcaongehaaGreatDoor
open Go.RowKit
attribute [local go_sem ↓] Go.wp_at_zero Go.wp_at_succ
set_option maxRecDepth 100000 in
set_option maxHeartbeats 6400000 in
theorem sameChange_true (x y : Chg) (w : World) (hx : x.lies w) (hy : y.lies w) (hf : x.fits) (hc : x.c = y.c) :
    Calls Tryz.prog 53 #[.agg x.enc.toArray, .agg y.enc.toArray] w fun e w' => e = .returned (.bool true) ∧ Below w.heap.size w w' := by
  generalize hQ : (fun (e : Ending) (w' : World) => e = .returned (.bool true) ∧ Below w.heap.size w w') = Q
  have HQ := Lib.hid (fun w' (hb : Below w.heap.size w w') => show Q (.returned (.bool true)) w' from hQ ▸ ⟨rfl, hb⟩)
  have hc1 : x.oe.c = y.oe.c := congrArg ChgC.oe hc
  have hc2 : x.ne.c = y.ne.c := congrArg ChgC.ne hc
  have HE1 := Lib.hid (fun (w1 : World) (h : Below w.heap.size w w1) => (show Calls Tryz.prog 50 #[.agg x.oe.enc.toArray, .agg y.oe.enc.toArray] w1 (fun e w' => e = .returned (.bool true) ∧ Below w1.heap.size w1 w') from by
    have := refEvSame_calls x.oe y.oe w1 (RowsAt.later hx.1 h) (RowsAt.later hy.1 h) hf.1.2 hf.1.1
    rwa [evEq_c _ _ hc1] at this))
  have HE2 := Lib.hid (fun (w1 : World) (h : Below w.heap.size w w1) => (show Calls Tryz.prog 50 #[.agg x.ne.enc.toArray, .agg y.ne.enc.toArray] w1 (fun e w' => e = .returned (.bool true) ∧ Below w1.heap.size w1 w') from by
    have := refEvSame_calls x.ne y.ne w1 (RowsAt.later hx.2 h) (RowsAt.later hy.2 h) hf.2.2 hf.2.1
    rwa [evEq_c _ _ hc2] at this))
  have HB2 := Lib.hid (fun (o o' : Obj) => (show Below w.heap.size w ((w.alloc o).alloc o') from ((Below.refl _ _).alloc (Nat.le_refl _) _).alloc (by simp) _))
  have HT := Lib.hid (fun (w1 w2 : World) (h : Below w.heap.size w w1) (h2 : Below w1.heap.size w1 w2) => h.trans (h2.mono h.size))
  clear hQ hx hy hf hc1 hc2
  obtain ⟨sec, id, name, ad, gn, oh, nh, rg, nr, oe, ne, oc, nc⟩ := x
  obtain ⟨sec', id', name', ad', gn', oh', nh', rg', nr', oe', ne', oc', nc'⟩ := y
  simp only [Chg.c, ChgC.mk.injEq] at hc
  obtain ⟨rfl, rfl, rfl, rfl, rfl, rfl, rfl, rfl, rfl, _, _, rfl, rfl⟩ := hc
  have r1 := fun wx => run_hdEq oh oh wx
  have r2 := fun wx => run_hdEq nh nh wx
  have r3 := fun wx => run_regEq rg rg wx
  have r4 := fun wx => run_regEq nr nr wx
  have r5 := fun wx => run_cmEq oc oc wx
  have r6 := fun wx => run_cmEq nc nc wx
  simp only [hdEq_refl, regEq_refl, cmEq_refl] at r1 r2 r3 r4 r5 r6
  obtain ⟨title1, lang1, rate1, drop1, last1⟩ := oh
  obtain ⟨title2, lang2, rate2, drop2, last2⟩ := nh
  obtain ⟨nm3, top3, height3, left3, width3, align3, bottom3⟩ := rg
  obtain ⟨nm4, top4, height4, left4, width4, align4, bottom4⟩ := nr
  obtain ⟨id5, inn5, out5, reg5, kind5, sp5, at5, cap5, rows5⟩ := oe
  obtain ⟨id6, inn6, out6, reg6, kind6, sp6, at6, cap6, rows6⟩ := ne
  obtain ⟨cid7, ev7, frm7, til7, au7, tx7, dn7, lo7⟩ := oc
  obtain ⟨cid8, ev8, frm8, til8, au8, tx8, dn8, lo8⟩ := nc
  obtain ⟨id5', inn5', out5', reg5', kind5', sp5', at5', cap5', rows5'⟩ := oe'
  obtain ⟨id6', inn6', out6', reg6', kind6', sp6', at6', cap6', rows6'⟩ := ne'
  simp only [Chg.enc, Hd.enc, Reg.enc, Ev.enc, Cm.enc, List.cons_append, List.nil_append] at *
  generalize hds : #[Value.int .u8 sec, .int .i64 id, .string name, .bool ad, .bool gn, .string title1, .string lang1, .int .u8 rate1, .bool drop1, .int .i64 last1, .string title2, .string lang2, .int .u8 rate2, .bool drop2, .int .i64 last2, .string nm3, .int .i64 top3, .int .i64 height3, .int .i64 left3, .int .i64 width3, .int .u8 align3, .bool bottom3, .string nm4, .int .i64 top4, .int .i64 height4, .int .i64 left4, .int .i64 width4, .int .u8 align4, .bool bottom4, .int .i64 id5, .int .i64 inn5, .int .i64 out5, .string reg5, .int .u8 kind5, .string sp5, .slice at5 rows5.length cap5, .int .i64 id6, .int .i64 inn6, .int .i64 out6, .string reg6, .int .u8 kind6, .string sp6, .slice at6 rows6.length cap6, .int .i64 cid7, .int .i64 ev7, .int .i64 frm7, .int .i64 til7, .string au7, .string tx7, .bool dn7, .bool lo7, .int .i64 cid8, .int .i64 ev8, .int .i64 frm8, .int .i64 til8, .string au8, .string tx8, .bool dn8, .bool lo8] = ds
  generalize hqs : #[Value.int .u8 sec, .int .i64 id, .string name, .bool ad, .bool gn, .string title1, .string lang1, .int .u8 rate1, .bool drop1, .int .i64 last1, .string title2, .string lang2, .int .u8 rate2, .bool drop2, .int .i64 last2, .string nm3, .int .i64 top3, .int .i64 height3, .int .i64 left3, .int .i64 width3, .int .u8 align3, .bool bottom3, .string nm4, .int .i64 top4, .int .i64 height4, .int .i64 left4, .int .i64 width4, .int .u8 align4, .bool bottom4, .int .i64 id5', .int .i64 inn5', .int .i64 out5', .string reg5', .int .u8 kind5', .string sp5', .slice at5' rows5'.length cap5', .int .i64 id6', .int .i64 inn6', .int .i64 out6', .string reg6', .int .u8 kind6', .string sp6', .slice at6' rows6'.length cap6', .int .i64 cid7, .int .i64 ev7, .int .i64 frm7, .int .i64 til7, .string au7, .string tx7, .bool dn7, .bool lo7, .int .i64 cid8, .int .i64 ev8, .int .i64 frm8, .int .i64 til8, .string au8, .string tx8, .bool dn8, .bool lo8] = qs
  have HB := Lib.hid (fun (w1 : World) (h : Below (w.heap.size + 2) ((w.alloc (.cells ds 54)).alloc (.cells qs 54)) w1) => box2_below h)
  have hb0 : Below (w.heap.size + 2) ((w.alloc (.cells ds 54)).alloc (.cells qs 54)) ((w.alloc (.cells ds 54)).alloc (.cells qs 54)) := Below.refl _ _
  have hsz : ((w.alloc (.cells ds 54)).alloc (.cells qs 54)).heap.size = w.heap.size + 2 := by simp
  have hk1 : ((w.alloc (.cells ds 54)).alloc (.cells qs 54)).heap[w.heap.size]? = some (.cells ds 54 (0, 0)) := by
    rw [Below.heap_alloc _ _ _ (by simp)]
    exact heap_alloc_last w _
  have hk2 : ((w.alloc (.cells ds 54)).alloc (.cells qs 54)).heap[w.heap.size + 1]? = some (.cells qs 54 (0, 0)) := by
    have := heap_alloc_last (w.alloc (.cells ds 54)) (.cells qs 54)
    rwa [World.size_alloc] at this
  generalize hW0 : (w.alloc (.cells ds 54)).alloc (.cells qs 54) = W0 at *
  have HW0 := Lib.hid hW0
  have HSZ := Lib.hid hsz
  have HT0 := Lib.hid (fun (w2 w3 : World) (h : Below (w.heap.size + 2) W0 w2) (h3 : Below w2.heap.size w2 w3) => (h.trans (h3.mono (by have := h.size; rw [HSZ.out] at this; exact this)) : Below (w.heap.size + 2) W0 w3))
  have bx : ∀ (w' : World), Below (w.heap.size + 2) W0 w' → ∀ (j : Nat), w'.cell? ⟨w.heap.size, j, none⟩ = ds[j]? := fun w' h j => cell_of_row _ _ j ds 54 (0, 0) ((h.block _ (by omega)).trans hk1)
  have by_ : ∀ (w' : World), Below (w.heap.size + 2) W0 w' → ∀ (j : Nat), w'.cell? ⟨w.heap.size + 1, j, none⟩ = qs[j]? := fun w' h j => cell_of_row _ _ j qs 54 (0, 0) ((h.block _ (by omega)).trans hk2)
  clear hW0 hsz hk1 hk2
  go_enter Tryz.func53, Tryz.ntmps53
  subst hds
  subst hqs
  go_wp2_with fail
  rw [HW0.out]
  refine (HE1.out _ (HB.out _ hb0)).mono ?_
  rintro e w1 ⟨rfl, hb1⟩
  have hc1 := HT0.out _ _ hb0 hb1
  clear hb1 HE1
  go_wp2_with fail
  refine (HE2.out _ (HB.out _ hc1)).mono ?_
  rintro e w2 ⟨rfl, hb2⟩
  have hc2 := HT0.out _ _ hc1 hb2
  clear hb2 HE2 hc1
  go_wp2_with fail
  exact HQ.out _ (HB.out _ hc2)
theorem chgSize : (Tryz.prog.info? 54).map (·.size) = some 59 := by kernel_rfl
set_option maxRecDepth 100000 in
set_option maxHeartbeats 6400000 in
theorem refSame_true (a a' : Option Addr) (c c' : Nat) (xs ys : List Chg) (w : World) (hx : ChgAt w a xs) (hy : ChgAt w a' ys) (hf : ∀ x ∈ xs, x.fits) (hc : xs.map Chg.c = ys.map Chg.c) (hl : xs.length ≤ 40000000) :
    Calls Tryz.prog 13 #[.slice a xs.length c, .slice a' ys.length c'] w fun e w' => e = .returned (.bool true) ∧ Below w.heap.size w w' := by
  have hle : ys.length = xs.length := by have := congrArg List.length hc; simpa using this.symm
  have HX := Lib.hid (fun (w1 : World) (h : Below w.heap.size w w1) => SliceOf.keeps Chg.keeps _ _ _ _ h hx)
  have HY := Lib.hid (fun (w1 : World) (h : Below w.heap.size w w1) => SliceOf.keeps Chg.keeps _ _ _ _ h hy)
  have HS := Lib.hid (fun (k : Nat) (x y : Chg) (w1 : World) (h1 : xs[k]? = some x) (h2 : ys[k]? = some y) (l1 : x.lies w1) (l2 : y.lies w1) => sameChange_true x y w1 l1 l2 (hf x (List.mem_of_getElem? h1)) (by
    have e1 : (xs.map Chg.c)[k]? = some x.c := by rw [List.getElem?_map, h1]; rfl
    have e2 : (ys.map Chg.c)[k]? = some y.c := by rw [List.getElem?_map, h2]; rfl
    rw [hc, e2] at e1
    exact (Option.some.inj e1).symm))
  rw [hle]
  have HLE := Lib.hid hle
  clear hle hx hy hf hc
  go_enter Tryz.func13, Tryz.ntmps13
  go_wp2_with fail
  go_loopw [13] (fun i wr => ∃ k : Nat, k ≤ xs.length ∧ i = .int .i64 k ∧ Below w.heap.size w wr) (fun i _ => xs.length - (intOf i).toNat)
  case atStart => exact ⟨0, by omega, rfl, Below.refl _ _⟩
  case round =>
    obtain ⟨k, hk, rfl, hb⟩ := hrel
    by_cases hlt : k < xs.length
    · obtain ⟨b, off, x, rfl, hbl, hxk, hcx, hxl⟩ := (HX.out _ hb).at_ hlt
      obtain ⟨b', off', y, rfl, hbl', hyk, hcy, hyl⟩ := (HY.out _ hb).at_ (show k < ys.length from by have := HLE.out; omega)
      have HC := Lib.hid (fun (w1 : World) (h : Below wr.heap.size wr w1) => HS.out k x y w1 hxk hyk (Chg.keeps _ _ _ h hxl) (Chg.keeps _ _ _ h hyl))
      have r1 : ∀ (w1 : World), Below wr.heap.size wr w1 → w1.rangeAt b (off + k * 59) x.enc := fun w1 h q u e => (h.cell (p := ⟨b, off + k * 59 + q, none⟩) hbl).trans (hcx q u e)
      have r2 : ∀ (w1 : World), Below wr.heap.size wr w1 → w1.rangeAt b' (off' + k * 59) y.enc := fun w1 h q u e => (h.cell (p := ⟨b', off' + k * 59 + q, none⟩) hbl').trans (hcy q u e)
      have R1 := Lib.hid r1
      have R2 := Lib.hid r2
      have HBR := Lib.hid hb
      have hbd : Below wr.heap.size wr wr.drew := (Below.refl _ _).drew
      clear hcx hcy hxl hyl hxk hyk hb r1 r2
      go_upto_region 6 with fail
      refine wp_region_held_drew (S := fun w' => Below wr.heap.size wr w') (by kernel_rfl) hbd (fun hHeld => ?_)
      refine wpAnyH_take (i := 0) (v := .slice (some ⟨b, off, none⟩) xs.length c) rfl (by kernel_rfl) (by kernel_rfl) (by kernel_rfl) (fun _ _ _ h => h) (.inl ⟨by rfl, fun w _ => by go_simp⟩) (by assumption) ?_
      simp only [Act.put, List.setIfInBounds_toArray, List.set_cons_zero, List.set_cons_succ]
      refine wpAnyH_take (i := 1) (v := .int .i64 k) rfl (by kernel_rfl) (by kernel_rfl) (by kernel_rfl) (fun _ _ _ h => h) (.inl ⟨by rfl, fun w _ => by go_simp⟩) (by assumption) ?_
      simp only [Act.put, List.setIfInBounds_toArray, List.set_cons_zero, List.set_cons_succ]
      refine wpAnyH_take (i := 2) (v := .pointer (some ⟨b, off + k * 59, none⟩)) rfl (by kernel_rfl) (by kernel_rfl) (by kernel_rfl) (fun _ _ _ h => h) (.inl ⟨by rfl, fun w _ => by go_simp⟩) (by assumption) ?_
      simp only [Act.put, List.setIfInBounds_toArray, List.set_cons_zero, List.set_cons_succ]
      refine wpAnyH_take (i := 3) (v := .agg x.enc.toArray) rfl (by kernel_rfl) (by kernel_rfl) (by kernel_rfl) (fun _ _ _ h => h) (yieldsIf_load_mid (by rfl) 54 (.tmp 18) rfl b (off + k * 59) rfl x.enc _ R1.out Tryz.underlying54 rfl (by rw [chgSize, Chg.len])) (by assumption) ?_
      simp only [Act.put, List.setIfInBounds_toArray, List.set_cons_zero, List.set_cons_succ]
      refine wpAnyH_take (i := 4) (v := .slice (some ⟨b', off', none⟩) xs.length c') rfl (by kernel_rfl) (by kernel_rfl) (by kernel_rfl) (fun _ _ _ h => h) (.inl ⟨by rfl, fun w _ => by go_simp⟩) (by assumption) ?_
      simp only [Act.put, List.setIfInBounds_toArray, List.set_cons_zero, List.set_cons_succ]
      refine wpAnyH_take (i := 5) (v := .int .i64 k) rfl (by kernel_rfl) (by kernel_rfl) (by kernel_rfl) (fun _ _ _ h => h) (.inl ⟨by rfl, fun w _ => by go_simp⟩) (by assumption) ?_
      simp only [Act.put, List.setIfInBounds_toArray, List.set_cons_zero, List.set_cons_succ]
      refine wpAnyH_take (i := 6) (v := .pointer (some ⟨b', off' + k * 59, none⟩)) rfl (by kernel_rfl) (by kernel_rfl) (by kernel_rfl) (fun _ _ _ h => h) (.inl ⟨by rfl, fun w _ => by go_simp⟩) (by assumption) ?_
      simp only [Act.put, List.setIfInBounds_toArray, List.set_cons_zero, List.set_cons_succ]
      refine wpAnyH_take (i := 7) (v := .agg y.enc.toArray) rfl (by kernel_rfl) (by kernel_rfl) (by kernel_rfl) (fun _ _ _ h => h) (yieldsIf_load_mid (by rfl) 54 (.tmp 22) rfl b' (off' + k * 59) rfl y.enc _ R2.out Tryz.underlying54 rfl (by rw [chgSize, Chg.len])) (by assumption) ?_
      simp only [Act.put, List.setIfInBounds_toArray, List.set_cons_zero, List.set_cons_succ]
      generalize x.enc.toArray = xe at *
      generalize y.enc.toArray = ye at *
      refine wpAnyH_ready (rs := [8]) (by kernel_rfl) (by simp) ?_
      refine AllReadyH.cons rfl (fun K hK => ?_) AllReadyH.nil
      go_simp
      refine (HC.out _ hbd).mono ?_
      rintro e w1 ⟨rfl, hb1⟩
      have hb2 : Below wr.heap.size wr w1 := hbd.trans (hb1.mono hbd.size)
      have HB1 := Lib.hid hb2
      clear hb1
      go_wp2_with fail
      refine hK.out _ _ hb2 (fun hHeld2 => ?_)
      clear hK
      try simp only [Act.put, List.setIfInBounds_toArray, List.set_cons_zero, List.set_cons_succ]
      refine wpAnyH_take (i := 9) (v := .bool false) rfl (by kernel_rfl) (by kernel_rfl) (by kernel_rfl) (fun _ _ _ h => h) (.inl ⟨by rfl, fun w _ => by go_simp⟩) (by assumption) ?_
      simp only [Act.put, List.setIfInBounds_toArray, List.set_cons_zero, List.set_cons_succ]
      refine wpAnyH_done (by kernel_rfl) ?_ _
      go_wp2_with fail
      go_roundw
      case rel => exact ⟨k + 1, by omega, by go_num, HBR.out.trans (HB1.out.mono HBR.out.size)⟩
      all_goals first | (simp [intOf]; done) | (simp [intOf]; omega)
    · obtain rfl : k = xs.length := by omega
      go_wp2_with fail
      go_ret
      exact ⟨rfl, hb⟩
end Go.Proofs.YtnlnmbcaongehaaGreatDoor
namespace Go.Proofs.YtnlnmbcaongehaaGreatDoor
open Go.RowKit
set_option maxRecDepth 100000 in
set_option maxHeartbeats 3200000 in
theorem lawLists_calls (Aw : World → Prop) (HAW : ∀ w, Aw w → Calls Tryz.prog 10 #[] w (fun e w' => e = .returned (.bool true) ∧ Below w.heap.size w w')) (hAB : ∀ w w', Aw w → Below w.heap.size w w' → Aw w') (a b : Doc) (w : World) (hE : Env w) (hA : Aw w) (ha : a.lies w) (hb : b.lies w) (hfa : a.fits) (hfb : b.fits) :
    Calls Tryz.prog 3 #[.agg a.enc.toArray, .agg b.enc.toArray] w fun e w' => e = .returned (.bool true) ∧ Below w.heap.size w w' := by
  generalize hQ : (fun (e : Ending) (w' : World) => e = .returned (.bool true) ∧ Below w.heap.size w w') = Q
  have HQ := Lib.hid (fun w' (hb : Below w.heap.size w w') => show Q (.returned (.bool true)) w' from hQ ▸ ⟨rfl, hb⟩)
  clear hQ
  have HA := Lib.hid (fun (w1 : World) (h : Below w.heap.size w w1) => HAW w1 (hAB w w1 hA h))
  have HD := Lib.hid (fun (w1 : World) (h : Below w.heap.size w w1) => (diff_calls a b w1 (hE.below h (Nat.le_refl _)) (Doc.later ha h) (Doc.later hb h) hfa hfb).mono DiffForm.of)
  have HR := Lib.hid (fun (w1 : World) (h : Below w.heap.size w w1) => (refDiff_calls a b w1 (hE.below h (Nat.le_refl _)) (Doc.later ha h) (Doc.later hb h) hfa hfb).mono DiffForm.of)
  have HS := Lib.hid (fun (A A' : Option Addr) (c c' : Nat) (xs ys : List Chg) (w1 : World) (hx : ChgAt w1 A xs) (hy : ChgAt w1 A' ys) (h1 : xs.map Chg.c = diffList a b) (h2 : ys.map Chg.c = diffList a b) => refSame_true A A' c c' xs ys w1 hx hy (list_ok hfa hfb h1).1 (h1.trans h2.symm) (list_ok hfa hfb h1).2)
  unfold DiffForm at HD HR
  generalize diffErr a b = ERR at *
  generalize diffList a b = L at *
  generalize hds : a.enc.toArray = ds at *
  generalize hqs : b.enc.toArray = qs at *
  have HB := Lib.hid (fun (w1 : World) (h : Below (w.heap.size + 2) ((w.alloc (.cells ds 27)).alloc (.cells qs 27)) w1) => box2_below h)
  obtain ⟨title, lang, rate, drop, last, ra, rc, regs, ea, ec, evs, ca, cc, cms⟩ := a
  obtain ⟨title', lang', rate', drop', last', ra', rc', regs', ea', ec', evs', ca', cc', cms'⟩ := b
  simp only [Doc.enc] at hds hqs
  have f0 := box2_fst w ds qs 27 27 0 (.string title) (by rw [← hds]; rfl)
  have f1 := box2_fst w ds qs 27 27 1 (.string lang) (by rw [← hds]; rfl)
  have f2 := box2_fst w ds qs 27 27 2 (.int .u8 rate) (by rw [← hds]; rfl)
  have f3 := box2_fst w ds qs 27 27 3 (.bool drop) (by rw [← hds]; rfl)
  have f4 := box2_fst w ds qs 27 27 4 (.int .i64 last) (by rw [← hds]; rfl)
  have f5 := box2_fst w ds qs 27 27 5 (.slice ra regs.length rc) (by rw [← hds]; rfl)
  have f6 := box2_fst w ds qs 27 27 6 (.slice ea evs.length ec) (by rw [← hds]; rfl)
  have f7 := box2_fst w ds qs 27 27 7 (.slice ca cms.length cc) (by rw [← hds]; rfl)
  have g0 := box2_snd w ds qs 27 27 0 (.string title') (by rw [← hqs]; rfl)
  have g1 := box2_snd w ds qs 27 27 1 (.string lang') (by rw [← hqs]; rfl)
  have g2 := box2_snd w ds qs 27 27 2 (.int .u8 rate') (by rw [← hqs]; rfl)
  have g3 := box2_snd w ds qs 27 27 3 (.bool drop') (by rw [← hqs]; rfl)
  have g4 := box2_snd w ds qs 27 27 4 (.int .i64 last') (by rw [← hqs]; rfl)
  have g5 := box2_snd w ds qs 27 27 5 (.slice ra' regs'.length rc') (by rw [← hqs]; rfl)
  have g6 := box2_snd w ds qs 27 27 6 (.slice ea' evs'.length ec') (by rw [← hqs]; rfl)
  have g7 := box2_snd w ds qs 27 27 7 (.slice ca' cms'.length cc') (by rw [← hqs]; rfl)
  have hb0 : Below (w.heap.size + 2) ((w.alloc (.cells ds 27)).alloc (.cells qs 27)) ((w.alloc (.cells ds 27)).alloc (.cells qs 27)) := Below.refl _ _
  have hsz : ((w.alloc (.cells ds 27)).alloc (.cells qs 27)).heap.size = w.heap.size + 2 := by simp
  generalize hW0 : (w.alloc (.cells ds 27)).alloc (.cells qs 27) = W0 at *
  have HW0 := Lib.hid hW0
  have HSZ := Lib.hid hsz
  have HT0 := Lib.hid (fun (w2 w3 : World) (h : Below (w.heap.size + 2) W0 w2) (h3 : Below w2.heap.size w2 w3) => (h.trans (h3.mono (by have := h.size; rw [HSZ.out] at this; exact this)) : Below (w.heap.size + 2) W0 w3))
  clear hW0 hsz ha hb hE hA hfa hfb HAW hAB
  go_enter Tryz.func3, Tryz.ntmps3
  subst hds
  subst hqs
  go_wp2_with fail
  rw [HW0.out]
  refine (HA.out _ (HB.out _ hb0)).mono ?_
  rintro e w1 ⟨rfl, hb1⟩
  have hc1 := HT0.out _ _ hb0 hb1
  clear hb1 HA
  go_wp2_with fail
  refine (HD.out _ (HB.out _ hc1)).mono ?_
  rintro e w2 ⟨A, xs, c, rfl, hx, hxc, hb2⟩
  have hc2 := HT0.out _ _ hc1 hb2
  have HX := Lib.hid hx
  have HXC := Lib.hid hxc
  clear hb2 hx hxc HD
  go_wp2_with fail
  refine (HR.out _ (HB.out _ hc2)).mono ?_
  rintro e w3 ⟨A', ys, c', rfl, hy, hyc, hb3⟩
  have hc3 := HT0.out _ _ hc2 hb3
  have HF := Lib.hid (HS.out A A' c c' xs ys w3 (SliceOf.keeps Chg.keeps _ _ _ _ hb3 HX.out) hy HXC.out hyc)
  clear hb3 hy hyc HR HS
  go_wp2_with fail
  refine HF.out.mono ?_
  rintro e w4 ⟨rfl, hb4⟩
  have hc4 := HT0.out _ _ hc3 hb4
  clear hb4 HF
  go_wp2_with fail
  exact HQ.out _ (HB.out _ hc4)
end Go.Proofs.YtnlnmbcaongehaaGreatDoor
namespace Go.Proofs.YtnlnmbcaongehaaGreatDoor
open Go.RowKit Go.ChangeShapes Go.WideShapes Go.Deep
theorem bulk_one {H : Type} (d : DataW H) : 1 ≤ Rows.uptoBulk d := by
  cases d with
  | lit l => cases l <;> simp [Rows.uptoBulk]
  | nil => simp [Rows.uptoBulk]
  | ptr d => simp [Rows.uptoBulk]
  | slice elems spare => simp [Rows.uptoBulk]
  | agg parts => simp [Rows.uptoBulk]
  | iface t d => simp [Rows.uptoBulk]
  | map entries => simp [Rows.uptoBulk]
  | held h => simp [Rows.uptoBulk]
theorem bulk_part {H : Type} {d : DataW H} {l : List (DataW H)} (h : d ∈ l) : Rows.uptoBulk d ≤ Rows.uptoBulkAll l := by
  induction l with
  | nil => cases h
  | cons x r ih =>
    simp only [Rows.uptoBulkAll]
    cases List.mem_cons.1 h with
    | inl e => subst e; omega
    | inr e => have := ih e; omega
theorem bulk_sum {H : Type} (l : List (DataW H)) : Rows.uptoBulkAll l = (l.map Rows.uptoBulk).sum := by
  induction l with
  | nil => simp [Rows.uptoBulkAll]
  | cons x r ih => simp [Rows.uptoBulkAll, ih]
theorem build {α : Type} {Q : Nat → α → Prop} : ∀ n, (∀ i, i < n → ∃ a, Q i a) → ∃ xs : List α, xs.length = n ∧ ∀ i x, xs[i]? = some x → Q i x
  | 0, _ => ⟨[], rfl, by simp⟩
  | n + 1, h => by
    obtain ⟨xs, hl, hx⟩ := build n (fun i hi => h i (by omega))
    obtain ⟨a, ha⟩ := h n (by omega)
    refine ⟨xs ++ [a], by simp [hl], fun i x hi => ?_⟩
    by_cases hn : i < n
    · rw [List.getElem?_append_left (by omega)] at hi
      exact hx i x hi
    · have hil : i < (xs ++ [a]).length := (List.getElem?_eq_some_iff.1 hi).1
      obtain rfl : i = n := by simp at hil; omega
      rw [List.getElem?_append_right (by omega), hl, Nat.sub_self] at hi
      obtain rfl : a = x := by simpa using hi
      exact ha
theorem sum_le {α : Type} (μ : α → Nat) : ∀ (xs : List α) (g : Nat → Nat), (∀ i x, xs[i]? = some x → μ x ≤ g i) → (xs.map μ).sum ≤ ((List.range xs.length).map g).sum
  | [], g, _ => by simp
  | x :: l, g, h => by
    have ih := sum_le μ l (fun i => g (i + 1)) (fun i y hy => h (i + 1) y (by simpa using hy))
    have h0 := h 0 x rfl
    rw [List.length_cons, List.range_succ_eq_map, List.map_cons, List.map_cons, List.sum_cons, List.sum_cons, List.map_map]
    exact Nat.add_le_add h0 ih
theorem len_le (g : Nat → Nat) (h : ∀ i, 1 ≤ g i) : ∀ n, n ≤ ((List.range n).map g).sum
  | 0 => by simp
  | n + 1 => by
    have := len_le g h n
    have := h n
    rw [List.range_succ, List.map_append, List.sum_append]
    simp
    omega
section
variable {H : Type} (enc : TypeId × Value → H) (w : World) (base : Nat) (sp : Nat → Bool) (held : Bool)
/-- What reads at a type is an α, with a measure that the reading's bulk bounds. -/
def Reads {α : Type} (t : TypeId) (ea : α → List Value) (Ok : World → α → Prop) (fits : α → Prop) (μ : α → Nat) : Prop :=
  ∀ fuel cs (x : DataW H × List MemPlace), DataW.trod enc Tryz.prog w base sp held fuel t cs = some x → Rows.uptoBulk x.1 ≤ 1048576 → ∃ a : α, cs = ea a ∧ Ok w a ∧ fits a ∧ μ a ≤ Rows.uptoBulk x.1
end
theorem reads_slice {H : Type} {enc : TypeId × Value → H} {w : World} {base : Nat} {sp : Nat → Bool} {held : Bool} {α : Type} {t e k : Nat} {ea : α → List Value} {Ok : World → α → Prop} {fits : α → Prop} {μ : α → Nat}
    (ht : Tryz.prog.underlying t = some (.slice e)) (hk : Tryz.prog.cellsOf e = k) (hk0 : 0 < k) (hlen : ∀ a, (ea a).length = k) (hr : Reads enc w base sp held e ea Ok fits μ)
    (fuel : Nat) (cs : List Value) (x : DataW H × List MemPlace) (h : DataW.trod enc Tryz.prog w base sp held fuel t cs = some x) (hb : Rows.uptoBulk x.1 ≤ 1048576) :
    ∃ (a : Option Addr) (xs : List α) (cap : Nat), cs = [.slice a xs.length cap] ∧ SliceOf k ea Ok w a xs ∧ (∀ y ∈ xs, fits y) ∧ xs.length ≤ Rows.uptoBulk x.1 ∧ (xs.map μ).sum ≤ Rows.uptoBulk x.1 := by
  rcases open_slice ht h with ⟨rfl, rfl⟩ | ⟨a, len, cap, m, n, D, Pl, rfl, hbl, hl, hm, hmm, rfl, hi⟩
  · exact ⟨none, [], 0, rfl, .inl rfl, by simp, by simp, by simp⟩
  · have hml : len ≤ m := by rw [hmm]; split <;> omega
    simp only [Rows.uptoBulk] at hb ⊢
    have hD : ∀ i, i < len → Rows.uptoBulk (D i) ≤ Rows.uptoBulkAll ((List.range len).map D) := fun i hi => bulk_part (List.mem_map.2 ⟨i, List.mem_range.2 hi, rfl⟩)
    obtain ⟨xs, hxl, hx⟩ := build (Q := fun i y => (∀ j v, (ea y)[j]? = some v → w.cell? ((a.add (i * k)).add j) = some v) ∧ Ok w y ∧ fits y ∧ μ y ≤ Rows.uptoBulk (D i)) len (fun i hil => by
      obtain ⟨cs', hc, htr⟩ := hi i (by omega)
      obtain ⟨y, hy1, hy2, hy3, hy4⟩ := hr n cs' (D i, Pl i) htr (by have := hD i hil; simp only; omega)
      rw [hk] at hc
      obtain ⟨_, hcl, hat⟩ := World.cells?_some hc
      refine ⟨y, fun j v hv => ?_, hy2, hy3, hy4⟩
      have hj : j < k := by have := (List.getElem?_eq_some_iff.1 hv).1; rw [hlen] at this; exact this
      rw [hat j hj, hy1]
      exact hv)
    refine ⟨some a, xs, cap, by rw [hxl], ?_, fun y hy => ?_, ?_, ?_⟩
    · cases xs with
      | nil => exact .inl rfl
      | cons y0 ys =>
        have h0 := (hx 0 y0 rfl).1
        have hy0 : ∃ v, (ea y0)[0]? = some v := ⟨_, List.getElem?_eq_getElem (by rw [hlen]; exact hk0)⟩
        obtain ⟨v0, hv0⟩ := hy0
        have hc0 := h0 0 v0 hv0
        simp only [Nat.zero_mul] at hc0
        obtain ⟨b, off, spot⟩ := a
        have hspot : spot = none := by simpa [Addr.add] using World.cell?_spot hc0
        subst hspot
        refine .inr ⟨b, off, rfl, by simpa [Addr.add] using World.block_lt_of_cell? w _ hc0, fun i y hy => ⟨fun j v hv => ?_, (hx i y hy).2.1⟩⟩
        have := (hx i y hy).1 j v hv
        have e : ((⟨b, off, none⟩ : Addr).add (i * k)).add j = ⟨b, off + i * k + j, none⟩ := by
          unfold Addr.add
          split <;> split <;> simp_all
        rw [e] at this
        exact this
    · obtain ⟨i, hi'⟩ := List.getElem?_of_mem hy
      exact (hx i y hi').2.2.1
    · have h1 : xs.length ≤ Rows.uptoBulkAll ((List.range len).map D) := by
        rw [bulk_sum, List.map_map, hxl]
        exact len_le _ (fun i => bulk_one _) len
      omega
    · have h1 := sum_le μ xs (fun i => Rows.uptoBulk (D i)) (fun i y hy => (hx i y hy).2.2.2)
      have h2 : ((List.range xs.length).map fun i => Rows.uptoBulk (D i)).sum = Rows.uptoBulkAll ((List.range len).map D) := by
        rw [bulk_sum, List.map_map, hxl]; rfl
      omega
theorem min64 : IntKind.i64.min = -9223372036854775808 := by decide
theorem max64 : IntKind.i64.max = 9223372036854775807 := by decide
theorem min8 : IntKind.u8.min = 0 := by decide
theorem max8 : IntKind.u8.max = 255 := by decide
theorem i64_of {n : Int} (h : (Lit.int .i64 n).wf = true) : i64 n := by
  simp only [Lit.wf, Bool.and_eq_true, decide_eq_true_eq, min64, max64] at h
  exact h
theorem u8_of {n : Int} (h : (Lit.int .u8 n).wf = true) : 0 ≤ n ∧ n ≤ 255 := by
  simp only [Lit.wf, Bool.and_eq_true, decide_eq_true_eq, min8, max8] at h
  exact h
theorem list1 {α : Type} {l : List α} (h : l.length = 1) : ∃ a0, l = [a0] := by
  obtain _ | ⟨a0, l⟩ := l
  · simp at h
  obtain _ | ⟨b, l⟩ := l
  · exact ⟨a0, rfl⟩
  · simp at h
theorem list2 {α : Type} {l : List α} (h : l.length = 2) : ∃ a0 a1, l = [a0, a1] := by
  obtain _ | ⟨a0, l⟩ := l
  · simp at h
  obtain _ | ⟨a1, l⟩ := l
  · simp at h
  obtain _ | ⟨b, l⟩ := l
  · exact ⟨a0, a1, rfl⟩
  · simp at h
theorem list3 {α : Type} {l : List α} (h : l.length = 3) : ∃ a0 a1 a2, l = [a0, a1, a2] := by
  obtain _ | ⟨a0, l⟩ := l
  · simp at h
  obtain _ | ⟨a1, l⟩ := l
  · simp at h
  obtain _ | ⟨a2, l⟩ := l
  · simp at h
  obtain _ | ⟨b, l⟩ := l
  · exact ⟨a0, a1, a2, rfl⟩
  · simp at h
theorem list5 {α : Type} {l : List α} (h : l.length = 5) : ∃ a0 a1 a2 a3 a4, l = [a0, a1, a2, a3, a4] := by
  obtain _ | ⟨a0, l⟩ := l
  · simp at h
  obtain _ | ⟨a1, l⟩ := l
  · simp at h
  obtain _ | ⟨a2, l⟩ := l
  · simp at h
  obtain _ | ⟨a3, l⟩ := l
  · simp at h
  obtain _ | ⟨a4, l⟩ := l
  · simp at h
  obtain _ | ⟨b, l⟩ := l
  · exact ⟨a0, a1, a2, a3, a4, rfl⟩
  · simp at h
theorem list6 {α : Type} {l : List α} (h : l.length = 6) : ∃ a0 a1 a2 a3 a4 a5, l = [a0, a1, a2, a3, a4, a5] := by
  obtain _ | ⟨a0, l⟩ := l
  · simp at h
  obtain _ | ⟨a1, l⟩ := l
  · simp at h
  obtain _ | ⟨a2, l⟩ := l
  · simp at h
  obtain _ | ⟨a3, l⟩ := l
  · simp at h
  obtain _ | ⟨a4, l⟩ := l
  · simp at h
  obtain _ | ⟨a5, l⟩ := l
  · simp at h
  obtain _ | ⟨b, l⟩ := l
  · exact ⟨a0, a1, a2, a3, a4, a5, rfl⟩
  · simp at h
theorem list7 {α : Type} {l : List α} (h : l.length = 7) : ∃ a0 a1 a2 a3 a4 a5 a6, l = [a0, a1, a2, a3, a4, a5, a6] := by
  obtain _ | ⟨a0, l⟩ := l
  · simp at h
  obtain _ | ⟨a1, l⟩ := l
  · simp at h
  obtain _ | ⟨a2, l⟩ := l
  · simp at h
  obtain _ | ⟨a3, l⟩ := l
  · simp at h
  obtain _ | ⟨a4, l⟩ := l
  · simp at h
  obtain _ | ⟨a5, l⟩ := l
  · simp at h
  obtain _ | ⟨a6, l⟩ := l
  · simp at h
  obtain _ | ⟨b, l⟩ := l
  · exact ⟨a0, a1, a2, a3, a4, a5, a6, rfl⟩
  · simp at h
theorem list8 {α : Type} {l : List α} (h : l.length = 8) : ∃ a0 a1 a2 a3 a4 a5 a6 a7, l = [a0, a1, a2, a3, a4, a5, a6, a7] := by
  obtain _ | ⟨a0, l⟩ := l
  · simp at h
  obtain _ | ⟨a1, l⟩ := l
  · simp at h
  obtain _ | ⟨a2, l⟩ := l
  · simp at h
  obtain _ | ⟨a3, l⟩ := l
  · simp at h
  obtain _ | ⟨a4, l⟩ := l
  · simp at h
  obtain _ | ⟨a5, l⟩ := l
  · simp at h
  obtain _ | ⟨a6, l⟩ := l
  · simp at h
  obtain _ | ⟨a7, l⟩ := l
  · simp at h
  obtain _ | ⟨b, l⟩ := l
  · exact ⟨a0, a1, a2, a3, a4, a5, a6, a7, rfl⟩
  · simp at h
section
variable {H : Type} {enc : TypeId × Value → H} {w : World} {base : Nat} {sp : Nat → Bool} {held : Bool}
theorem c2 : Tryz.prog.cellsOf 2 = 1 := by kernel_rfl
theorem c3 : Tryz.prog.cellsOf 3 = 1 := by kernel_rfl
theorem c4 : Tryz.prog.cellsOf 4 = 1 := by kernel_rfl
theorem c5 : Tryz.prog.cellsOf 5 = 1 := by kernel_rfl
theorem c9 : Tryz.prog.cellsOf 9 = 1 := by kernel_rfl
theorem c23 : Tryz.prog.cellsOf 22 = 1 := by kernel_rfl
theorem c24 : Tryz.prog.cellsOf 23 = 1 := by kernel_rfl
theorem c25 : Tryz.prog.cellsOf 24 = 1 := by kernel_rfl
theorem c26 : Tryz.prog.cellsOf 25 = 1 := by kernel_rfl
theorem c28 : Tryz.prog.cellsOf 27 = 8 := by kernel_rfl
theorem c56 : Tryz.prog.cellsOf 46 = 2 := by kernel_rfl
theorem c57 : Tryz.prog.cellsOf 47 = 1 := by kernel_rfl
theorem c58 : Tryz.prog.cellsOf 48 = 1 := by kernel_rfl
theorem c60 : Tryz.prog.cellsOf 50 = 7 := by kernel_rfl
theorem c81 : Tryz.prog.cellsOf 71 = 1 := by kernel_rfl
theorem c83 : Tryz.prog.cellsOf 73 = 3 := by kernel_rfl
theorem c85 : Tryz.prog.cellsOf 75 = 5 := by kernel_rfl
theorem c86 : Tryz.prog.cellsOf 76 = 1 := by kernel_rfl
theorem c88 : Tryz.prog.cellsOf 78 = 1 := by kernel_rfl
theorem c99 : Tryz.prog.cellsOf 42 = 1 := by kernel_rfl
theorem c101 : Tryz.prog.cellsOf 44 = 7 := by kernel_rfl
theorem c116 : Tryz.prog.cellsOf 52 = 8 := by kernel_rfl
theorem agg_part {x : DataW H × List MemPlace} {ys : List (DataW H × List MemPlace)} (hx : x = (.agg (ys.map (·.1)), ys.flatMap (·.2))) {y : DataW H × List MemPlace} (hy : y ∈ ys) : Rows.uptoBulk y.1 ≤ Rows.uptoBulk x.1 := by
  rw [hx]
  simp only [Rows.uptoBulk]
  have := bulk_part (List.mem_map.2 ⟨y, hy, rfl⟩ : y.1 ∈ ys.map (·.1))
  omega
theorem str_size {s : ByteArray} {y : DataW H × List MemPlace} (h : y = (.lit (.string s.data.toList), [])) : s.size ≤ Rows.uptoBulk y.1 := by
  rw [h]
  simp only [Rows.uptoBulk]
  have : s.data.toList.length = s.size := by simp
  omega
theorem read_reg : Reads enc w base sp held 44 Reg.enc Flat Reg.fits (fun _ => 0) := by
  intro fuel cs x h hb
  obtain ⟨ys, n, rfl, hx, hlen, hyl, hf⟩ := DataW.trod_struct Tryz.underlying44 h
  rw [c101] at hlen
  obtain ⟨v0, v1, v2, v3, v4, v5, v6, rfl⟩ := list7 hlen
  obtain ⟨y0, y1, y2, y3, y4, y5, y6, rfl⟩ := list7 hyl
  have g0 := hf 0 _ rfl; have g1 := hf 1 _ rfl; have g2 := hf 2 _ rfl; have g3 := hf 3 _ rfl; have g4 := hf 4 _ rfl; have g5 := hf 5 _ rfl; have g6 := hf 6 _ rfl
  simp [c9, c3, c99, c4] at g0 g1 g2 g3 g4 g5 g6
  obtain ⟨s0, e0, q0, w0⟩ := DataW.trod_string Tryz.underlying9 g0
  obtain ⟨z1, e1, _, w1⟩ := DataW.trod_int Tryz.underlying3 g1
  obtain ⟨z2, e2, _, w2⟩ := DataW.trod_int Tryz.underlying3 g2
  obtain ⟨z3, e3, _, w3⟩ := DataW.trod_int Tryz.underlying3 g3
  obtain ⟨z4, e4, _, w4⟩ := DataW.trod_int Tryz.underlying3 g4
  obtain ⟨z5, e5, _, w5⟩ := DataW.trod_int Tryz.underlying42 g5
  obtain ⟨z6, e6, _⟩ := DataW.trod_bool Tryz.underlying4 g6
  simp at e0 e1 e2 e3 e4 e5 e6
  subst e0 e1 e2 e3 e4 e5 e6
  have k0 := agg_part hx (y := y0) (by simp)
  have k1 := str_size q0
  exact ⟨⟨s0, z1, z2, z3, z4, z5, z6⟩, rfl, trivial, ⟨by simp only; omega, i64_of w1, i64_of w2, i64_of w3, i64_of w4, (u8_of w5).1, (u8_of w5).2⟩, Nat.zero_le _⟩
theorem read_cm : Reads enc w base sp held 52 Cm.enc Flat Cm.fits (fun _ => 0) := by
  intro fuel cs x h hb
  obtain ⟨ys, n, rfl, hx, hlen, hyl, hf⟩ := DataW.trod_struct Tryz.underlying52 h
  rw [c116] at hlen
  obtain ⟨v0, v1, v2, v3, v4, v5, v6, v7, rfl⟩ := list8 hlen
  obtain ⟨y0, y1, y2, y3, y4, y5, y6, y7, rfl⟩ := list8 hyl
  have g0 := hf 0 _ rfl; have g1 := hf 1 _ rfl; have g2 := hf 2 _ rfl; have g3 := hf 3 _ rfl; have g4 := hf 4 _ rfl; have g5 := hf 5 _ rfl; have g6 := hf 6 _ rfl; have g7 := hf 7 _ rfl
  simp [c9, c3, c2, c4] at g0 g1 g2 g3 g4 g5 g6 g7
  obtain ⟨z0, e0, _, w0⟩ := DataW.trod_int Tryz.underlying2 g0
  obtain ⟨z1, e1, _, w1⟩ := DataW.trod_int Tryz.underlying2 g1
  obtain ⟨z2, e2, _, w2⟩ := DataW.trod_int Tryz.underlying3 g2
  obtain ⟨z3, e3, _, w3⟩ := DataW.trod_int Tryz.underlying3 g3
  obtain ⟨s4, e4, q4, _⟩ := DataW.trod_string Tryz.underlying9 g4
  obtain ⟨s5, e5, q5, _⟩ := DataW.trod_string Tryz.underlying9 g5
  obtain ⟨z6, e6, _⟩ := DataW.trod_bool Tryz.underlying4 g6
  obtain ⟨z7, e7, _⟩ := DataW.trod_bool Tryz.underlying4 g7
  simp at e0 e1 e2 e3 e4 e5 e6 e7
  subst e0 e1 e2 e3 e4 e5 e6 e7
  have k4 := agg_part hx (y := y4) (by simp)
  have k5 := agg_part hx (y := y5) (by simp)
  have l4 := str_size q4
  have l5 := str_size q5
  exact ⟨⟨z0, z1, z2, z3, s4, s5, z6, z7⟩, rfl, trivial, ⟨i64_of w0, i64_of w1, i64_of w2, i64_of w3, by simp only; omega, by simp only; omega⟩, Nat.zero_le _⟩
theorem read_run : Reads enc w base sp held 75 Run.enc Flat Run.fits (fun r => r.text.size) := by
  intro fuel cs x h hb
  obtain ⟨ys, n, rfl, hx, hlen, hyl, hf⟩ := DataW.trod_struct Tryz.underlying75 h
  rw [c85] at hlen
  obtain ⟨v0, v1, v2, v3, v4, rfl⟩ := list5 hlen
  obtain ⟨y0, y1, y2, rfl⟩ := list3 hyl
  have g0 := hf 0 _ rfl; have g1 := hf 1 _ rfl; have g2 := hf 2 _ rfl
  simp [c9, c83] at g0 g1 g2
  obtain ⟨s0, e0, q0, _⟩ := DataW.trod_string Tryz.underlying9 g0
  obtain ⟨s4, e4, q4, _⟩ := DataW.trod_string Tryz.underlying9 g2
  obtain ⟨us, n', rfl, hx', hlen', hyl', hf'⟩ := DataW.trod_struct Tryz.underlying73 g1
  obtain ⟨u0, u1, u2, rfl⟩ := list3 hyl'
  have p0 := hf' 0 _ rfl; have p1 := hf' 1 _ rfl; have p2 := hf' 2 _ rfl
  simp [c81, c4] at p0 p1 p2
  obtain ⟨z1, e1, _, w1⟩ := DataW.trod_int Tryz.underlying71 p0
  obtain ⟨z2, e2, _⟩ := DataW.trod_bool Tryz.underlying4 p1
  obtain ⟨z3, e3, _⟩ := DataW.trod_bool Tryz.underlying4 p2
  simp at e0 e1 e2 e3 e4
  subst e0 e1 e2 e3 e4
  have k0 := agg_part hx (y := y0) (by simp)
  have k2 := agg_part hx (y := y2) (by simp)
  have l0 := str_size q0
  have l2 := str_size q4
  exact ⟨⟨s0, z1, z2, z3, s4⟩, rfl, trivial, ⟨by simp only; omega, by simp only; omega, (u8_of w1).1, (u8_of w1).2⟩, by simp only; omega⟩
theorem sumText_eq : ∀ l : List Run, (l.map fun r => r.text.size).sum = sumText l
  | [] => rfl
  | r :: l => by simp [sumText, sumText_eq l]
theorem read_row : Reads enc w base sp held 78 Row.enc Row.lies Row.fits (fun _ => 0) := by
  intro fuel cs x h hb
  obtain ⟨ys, n, rfl, hx, hlen, hyl, hf⟩ := DataW.trod_struct Tryz.underlying78 h
  rw [c88] at hlen
  obtain ⟨v0, rfl⟩ := list1 hlen
  obtain ⟨y0, rfl⟩ := list1 hyl
  have g0 := hf 0 _ rfl
  simp [c86] at g0
  have k0 := agg_part hx (y := y0) (by simp)
  obtain ⟨a, xs, cap, e, hS, hF, hL, hM⟩ := reads_slice Tryz.underlying76 c85 (by decide) (fun _ => rfl) read_run n [v0] y0 g0 (by omega)
  simp at e
  subst e
  rw [sumText_eq] at hM
  exact ⟨⟨a, cap, xs⟩, rfl, hS, ⟨hF, by simp only; omega, by simp only; omega⟩, Nat.zero_le _⟩
theorem read_ev : Reads enc w base sp held 50 Ev.enc Ev.lies Ev.fits (fun _ => 0) := by
  intro fuel cs x h hb
  obtain ⟨ys, n, rfl, hx, hlen, hyl, hf⟩ := DataW.trod_struct Tryz.underlying50 h
  rw [c60] at hlen
  obtain ⟨v0, v1, v2, v3, v4, v5, v6, rfl⟩ := list7 hlen
  obtain ⟨y0, y1, y2, y3, y4, y5, rfl⟩ := list6 hyl
  have g0 := hf 0 _ rfl; have g1 := hf 1 _ rfl; have g2 := hf 2 _ rfl; have g3 := hf 3 _ rfl; have g4 := hf 4 _ rfl; have g5 := hf 5 _ rfl
  simp [c2, c56, c9, c57, c58] at g0 g1 g2 g3 g4 g5
  obtain ⟨z0, e0, _, w0⟩ := DataW.trod_int Tryz.underlying2 g0
  obtain ⟨us, n', rfl, hx', hlen', hyl', hf'⟩ := DataW.trod_struct Tryz.underlying46 g1
  obtain ⟨u0, u1, rfl⟩ := list2 hyl'
  have p0 := hf' 0 _ rfl; have p1 := hf' 1 _ rfl
  simp [c2] at p0 p1
  obtain ⟨z1, e1, _, w1⟩ := DataW.trod_int Tryz.underlying2 p0
  obtain ⟨z2, e2, _, w2⟩ := DataW.trod_int Tryz.underlying2 p1
  obtain ⟨s3, e3, q3, _⟩ := DataW.trod_string Tryz.underlying9 g2
  obtain ⟨z4, e4, _, w4⟩ := DataW.trod_int Tryz.underlying47 g3
  obtain ⟨s5, e5, q5, _⟩ := DataW.trod_string Tryz.underlying9 g4
  have k2 := agg_part hx (y := y2) (by simp)
  have k4 := agg_part hx (y := y4) (by simp)
  have k5 := agg_part hx (y := y5) (by simp)
  have l3 := str_size q3
  have l5 := str_size q5
  obtain ⟨a, xs, cap, e6, hS, hF, hL, hM⟩ := reads_slice Tryz.underlying48 c88 (by decide) (fun _ => rfl) read_row _ [v6] y5 g5 (by omega)
  simp at e0 e1 e2 e3 e4 e5 e6
  subst e0 e1 e2 e3 e4 e5 e6
  exact ⟨⟨z0, z1, z2, s3, z4, s5, a, cap, xs⟩, rfl, hS, ⟨i64_of w0, i64_of w1, i64_of w2, by simp only; omega, (u8_of w4).1, (u8_of w4).2, by simp only; omega, hF, by simp only; omega⟩, Nat.zero_le _⟩
theorem read_doc : Reads enc w base sp held 27 Doc.enc (fun w d => d.lies w) Doc.fits (fun _ => 0) := by
  intro fuel cs x h hb
  obtain ⟨ys, n, rfl, hx, hlen, hyl, hf⟩ := DataW.trod_struct Tryz.underlying27 h
  rw [c28] at hlen
  obtain ⟨v0, v1, v2, v3, v4, v5, v6, v7, rfl⟩ := list8 hlen
  obtain ⟨y0, y1, y2, y3, y4, y5, y6, y7, rfl⟩ := list8 hyl
  have g0 := hf 0 _ rfl; have g1 := hf 1 _ rfl; have g2 := hf 2 _ rfl; have g3 := hf 3 _ rfl; have g4 := hf 4 _ rfl; have g5 := hf 5 _ rfl; have g6 := hf 6 _ rfl; have g7 := hf 7 _ rfl
  simp [c9, c23, c4, c2, c24, c25, c26] at g0 g1 g2 g3 g4 g5 g6 g7
  obtain ⟨s0, e0, q0, _⟩ := DataW.trod_string Tryz.underlying9 g0
  obtain ⟨s1, e1, q1, _⟩ := DataW.trod_string Tryz.underlying9 g1
  obtain ⟨z2, e2, _, w2⟩ := DataW.trod_int Tryz.underlying22 g2
  obtain ⟨z3, e3, _⟩ := DataW.trod_bool Tryz.underlying4 g3
  obtain ⟨z4, e4, _, w4⟩ := DataW.trod_int Tryz.underlying2 g4
  have k0 := agg_part hx (y := y0) (by simp)
  have k1 := agg_part hx (y := y1) (by simp)
  have k5 := agg_part hx (y := y5) (by simp)
  have k6 := agg_part hx (y := y6) (by simp)
  have k7 := agg_part hx (y := y7) (by simp)
  have l0 := str_size q0
  have l1 := str_size q1
  obtain ⟨ra, regs, rc, e5, hS5, hF5, hL5, _⟩ := reads_slice Tryz.underlying23 c101 (by decide) (fun _ => rfl) read_reg _ [v5] y5 g5 (by omega)
  obtain ⟨ea, evs, ec, e6, hS6, hF6, hL6, _⟩ := reads_slice Tryz.underlying24 c60 (by decide) (fun _ => rfl) read_ev _ [v6] y6 g6 (by omega)
  obtain ⟨ca, cms, cc, e7, hS7, hF7, hL7, _⟩ := reads_slice Tryz.underlying25 c116 (by decide) (fun _ => rfl) read_cm _ [v7] y7 g7 (by omega)
  simp at e0 e1 e2 e3 e4 e5 e6 e7
  subst e0 e1 e2 e3 e4 e5 e6 e7
  exact ⟨⟨s0, s1, z2, z3, z4, ra, rc, regs, ea, ec, evs, ca, cc, cms⟩, rfl, ⟨hS5, hS6, hS7⟩, ⟨by simp only; omega, by simp only; omega, (u8_of w2).1, (u8_of w2).2, i64_of w4, hF5, by simp only; omega, hF6, by simp only; omega, hF7, by simp only; omega⟩, Nat.zero_le _⟩
end
end Go.Proofs.YtnlnmbcaongehaaGreatDoor
namespace Go.Proofs.YtnlnmbcaongehaaGreatDoor.diffSeat
open Go.Shelf Go.ChangeShapes Go.WideShapes Go.ChangeAt Go.RowKit Go.Lib
theorem own : ownKnob Tryz.prog.godebug = none := by kernel_rfl
theorem laidOut : laidOutB Tryz.prog = true := by kernel_rfl
def tab32 : List Int := [0, 1, 28, 2, 29, 14, 24, 3, 30, 22, 20, 15, 25, 17, 4, 8, 31, 27, 13, 23, 21, 19, 16, 7, 26, 12, 18, 6, 11, 5, 10, 9]
def tab64 : List Int := [0, 1, 56, 2, 57, 49, 28, 3, 61, 58, 42, 50, 38, 29, 17, 4, 62, 47, 59, 36, 45, 43, 51, 22, 53, 39, 33, 30, 24, 18, 12, 5, 63, 55, 48, 27, 60, 41, 37, 16, 46, 35, 44, 21, 52, 32, 23, 11, 54, 26, 40, 15, 34, 20, 31, 10, 25, 14, 19, 9, 13, 8, 7, 6]
/-- The world of the witness: the tables hold what their initialisers lay. -/
noncomputable def laidWorld (os : Os) : World :=
  let w0 := World.holding Tryz.prog os ⟨#[], #[], []⟩
  let put (h : Array Obj) (g : Nat) (cs : Array Value) : Array Obj := h.modify g fun
    | .cells _ t frozen => .cells cs t frozen
    | o => o
  let h1 := put w0.heap 0 (Lib.firstTab.map fun z => Value.int .u8 z).toArray
  let h2 := put h1 1 ((List.range 16).flatMap fun i => [Value.int .u8 (Lib.accLo i), Value.int .u8 (Lib.accHi i)]).toArray
  let h3 := put h2 2 (Lib.pow10Tab.map fun z => Value.int .u64 z).toArray
  let h4 := put h3 4 (tab32.map fun z => Value.int .u8 z).toArray
  let h5 := put h4 5 (tab64.map fun z => Value.int .u8 z).toArray
  { w0 with heap := h5 }
def zd : Array Value := #[.string ⟨#[]⟩, .string ⟨#[]⟩, .int .u8 0, .bool false, .int .i64 0, .slice none 0 0, .slice none 0 0, .slice none 0 0]
theorem laid_met (os : Os) (args : Array Value) : laidMet Tryz.prog Rows.diffListsUptoRow.laid ((laidWorld os).forCall (fun _ _ => 0) ⟨#[], args, []⟩).memory :=
  laidMet_of_run' 8 (by kernel_rfl) (by kernel_rfl)
theorem first_eq : Rows.laid_unicode_utf8_first = Lib.firstData := by kernel_rfl
theorem accept_eq : (Rows.laid_unicode_utf8_acceptRanges : DataW Unit) = Lib.acceptData := by kernel_rfl
theorem pow_eq : (Rows.laid_internal_strconv_uint64pow10 : DataW Unit) = Lib.tabData .u64 Lib.pow10Tab := by kernel_rfl
theorem laid_list : Rows.diffListsUptoRow.laid = [("math/bits.deBruijn32tab", Rows.laid_math_bits_deBruijn32tab), ("math/bits.deBruijn64tab", Rows.laid_math_bits_deBruijn64tab), ("internal/strconv.uint64pow10", Rows.laid_internal_strconv_uint64pow10), ("unicode/utf8.acceptRanges", Rows.laid_unicode_utf8_acceptRanges), ("unicode/utf8.first", Rows.laid_unicode_utf8_first)] := rfl
theorem max_of {W : World} (h : W.ShapedOpen Tryz.prog) : ∃ m, W.cell? ⟨3, 0, none⟩ = some (.int .i64 m) :=
  Go.Proofs.cell_of_shapedOpen_int (zero := #[.int .i64 0]) (t := 3) h (of_decide_eq_true (by kernel_rfl)) (by kernel_rfl) rfl (by kernel_rfl) (by kernel_rfl) Tryz.underlying3
theorem env_of {W : World} (hL : laidMetH Tryz.prog Rows.diffListsUptoRow.laid W) (hS : W.ShapedOpen Tryz.prog) : Aw W := by
  have hL' : laidMet Tryz.prog Rows.diffListsUptoRow.laid W := by
    rw [Go.MakeChecks.laidMetH_plain _ _ _ (by kernel_rfl)] at hL
    exact hL
  rw [laid_list, first_eq, accept_eq, pow_eq] at hL'
  have h3 := Go.laidMet.tail (Go.laidMet.tail hL')
  have h4 := Go.laidMet.tail h3
  exact ⟨⟨utf8Tabs_of_readsT (U8Types.of196 Tryz.lays196) ⟨by kernel_rfl, by kernel_rfl, by kernel_rfl, by kernel_rfl, by kernel_rfl, by kernel_rfl, by kernel_rfl⟩ (Lib.laidMet.reads h4 (List.Mem.tail _ (List.Mem.head _))) (Lib.laidMet.reads h4 (List.Mem.head _)), max_of hS⟩, Lib.tabIs_of_head (g := 2) (t := 337) (n := 20) (by kernel_rfl) (by kernel_rfl) Tryz.underlying337 Tryz.underlying259 (by kernel_rfl) (by kernel_rfl) h3⟩
end Go.Proofs.YtnlnmbcaongehaaGreatDoor.diffSeat
namespace Go.Proofs.YtnlnmbcaongehaaGreatDoor.diffLists
open Go.Shelf Go.ChangeShapes Go.WideShapes Go.ChangeAt Go.RowKit Go.Lib
open Go.Proofs.YtnlnmbcaongehaaGreatDoor.diffSeat (own laidOut laidWorld laid_met env_of zd)
theorem bound {H : Type} {l : List (DataW H)} (hk : Rows.uptoSmall H l = true) : Rows.uptoBulkAll l ≤ 1048576 := of_decide_eq_true hk
theorem slice_cap {P : Program} {W : World} {r : Reach} {base len cap : Nat} {t e : TypeId} {a : Option Addr} (ht : P.underlying t = some (.slice e)) (h : Value.okWide P W r base t (.slice a len cap)) : len ≤ cap := by
  simp only [Value.okWide, ht, Cell.okWide] at h
  cases a with
  | none =>
    by_cases hl : len = 0
    · omega
    · obtain ⟨n, rfl⟩ : ∃ n, len = n + 1 := ⟨len - 1, by omega⟩
      simp only [Cell.ok, ht] at h
  | some a => simp only [Cell.ok, ht] at h; exact h.1
def wargs : Array Value := #[.agg zd, .agg zd]
set_option maxRecDepth 100000 in
/-- What the walk gives, for all arguments of small bulk and every world that holds the tables. -/
theorem contract (H : Type) (enc : TypeId × Value → H) (F : Stop.Interp) (W : World) (base : Nat) (args : Array Value) (ds gs : List (DataW H)) (before : List MemPlace)
    (hval : ∀ (j : Nat) t v, Tryz.f3.params[j]? = some t → args[j]? = some v → Value.okWide Tryz.prog W .any base t v)
    (hW : DataW.Whole enc Tryz.prog Tryz.f3.params.toList (Rows.OpenSpec.upto Rows.diffListsSpec).vars false W args.toList ds gs before) (hk : Rows.uptoSmall H (ds ++ gs) = true) (hE : Aw W) :
    Calls Tryz.prog 3 args W fun e W' => ∃ v, e = .returned v ∧ ((Rows.OpenSpec.upto Rows.diffListsSpec).at F).post enc Tryz.prog Tryz.f3 false true false false W args v W' := by
  have hW' := hW
  obtain ⟨p, q, hA0, hV, rfl, hfz, hnd⟩ := hW
  have hA : DataW.TrodAll enc Tryz.prog W 0 (fun _ => true) true Tryz.f3.params.toList args.toList ds p := hA0
  rw [Tryz.params3] at hA hval
  obtain ⟨v0, vs0, d0, ds0, p0, q0, hargs, rfl, rfl, h0, r0⟩ := trodAll_cons hA
  obtain ⟨v1, vs1, d1, ds1, p1, q1, rfl, rfl, rfl, h1, r1⟩ := trodAll_cons r0
  obtain ⟨rfl, rfl, rfl⟩ := trodAll_nil r1
  obtain rfl : args = #[v0, v1] := by cases args; simp_all
  obtain ⟨rfl, rfl⟩ := trodVars_none hV
  have hbk := bound hk
  simp only [List.append_nil, Rows.uptoBulkAll] at hbk
  have k0 := h0
  have lt0 : ∀ x ∈ p0, x.block < W.heap.size := by obtain ⟨m, hm⟩ := k0; exact DataW.trod_lt m _ _ _ hm
  obtain ⟨f0, t0⟩ := h0
  have k1 := h1
  have lt1 : ∀ x ∈ p1, x.block < W.heap.size := by obtain ⟨m, hm⟩ := k1; exact DataW.trod_lt m _ _ _ hm
  obtain ⟨f1, t1⟩ := h1
  obtain ⟨c0, rfl, hc0⟩ := okWide_struct Tryz.underlying27 (hval 0 27 v0 rfl rfl)
  obtain ⟨d, e0, l0, g0, _⟩ := read_doc f0 _ (d0, p0) t0 (by simp only; omega)
  simp [Value.cells] at e0
  have e0' : c0 = d.enc.toArray := by rw [← e0]
  subst e0'
  obtain ⟨c1, rfl, hc1⟩ := okWide_struct Tryz.underlying27 (hval 1 27 v1 rfl rfl)
  obtain ⟨d', e1, l1, g1, _⟩ := read_doc f1 _ (d1, p1) t1 (by simp only; omega)
  simp [Value.cells] at e1
  have e1' : c1 = d'.enc.toArray := by rw [← e1]
  subst e1'
  clear hA0
  refine (lawLists_calls Aw awake_calls (fun w w' h hb => h.below hb) d d' W hE.1 hE l0 l1 g0 g1).mono fun e W' ⟨he, bel⟩ => ?_
  subst he
  exact ⟨_, rfl, _, _, _, [], _, [], hW', trodAll_mk1 (shut_bool Tryz.underlying4 _), (trodAll_cons_mk (Below.trod laidOut (by kernel_rfl) (of_decide_eq_true (by kernel_rfl)) k0 bel lt0) (trodAll_cons_mk (Below.trod laidOut (by kernel_rfl) (of_decide_eq_true (by kernel_rfl)) k1 bel lt1) trodAll_mk0)), rfl, bel.frame _, fun h => by cases h⟩
/-- What a document of zero values reads as. -/
def zdoc {H : Type} : DataW H := .agg [.lit (.string []), .lit (.string []), .lit (.int .u8 0), .lit (.bool false), .lit (.int .i64 0), .nil, .nil, .nil]
theorem wreads (os : Os) {H : Type} (enc : TypeId × Value → H) : ∃ places, DataW.whole enc Tryz.prog ((laidWorld os).forCall (fun _ _ => 0) ⟨#[], wargs, []⟩).memory Tryz.f3.params.toList (Rows.OpenSpec.upto Rows.diffListsSpec).vars false wargs.toList 8 = some ([zdoc, zdoc], [], places) := by
  have hw : (DataW.whole enc Tryz.prog ((laidWorld os).forCall (fun _ _ => 0) ⟨#[], wargs, []⟩).memory Tryz.f3.params.toList (Rows.OpenSpec.upto Rows.diffListsSpec).vars false wargs.toList 8).map (fun x => (x.1, x.2.1)) = some ([zdoc, zdoc], []) := by kernel_rfl
  obtain ⟨⟨x1, x2, x3⟩, hx, hx1⟩ := Option.map_eq_some_iff.1 hw
  simp only [Prod.mk.injEq] at hx1
  obtain ⟨rfl, rfl⟩ := hx1
  exact ⟨x3, hx⟩
set_option maxRecDepth 100000 in
theorem liftedUpto (os : Os) (started : os.Started) (H : Type) (enc : TypeId × Value → H) (F : Stop.Interp) :
    ReturnsInHanded {} Tryz.checked os 3 .any ((Rows.OpenSpec.upto Rows.diffListsSpec).preRow enc Tryz.prog Tryz.f3 Rows.diffListsUptoRow.domain false Rows.diffListsUptoRow.laid) (((Rows.OpenSpec.upto Rows.diffListsSpec).at F).post enc Tryz.prog Tryz.f3 false true false false) := by
  obtain ⟨places, hx⟩ := wreads os enc
  refine returnsInHanded_of_row (C := Tryz.checked) (s := Rows.OpenSpec.upto Rows.diffListsSpec) own started (by kernel_rfl) Tryz.func3
    (witness_row_at (enc := enc) (C := Tryz.checked) false (laidWorld os) wargs rfl (by kernel_rfl) (by kernel_rfl) (by kernel_rfl)
      (OpenSpec.preRow_of_cond 8 hx (by kernel_rfl) (fun k hk => by cases hk; kernel_rfl) (by kernel_rfl) (laid_met os _))) ?_
  intro W base args ds gs before hval hW _ hcond _ hL hS _
  exact contract H enc F W base args ds gs before hval hW (hcond _ rfl) (env_of hL hS)
theorem inPlace_eq : Rows.diffListsUptoRow.inPlace = Tryz.prog.inPlace 3 := by kernel_rfl
theorem unfollowed_eq : Tryz.prog.unfollowed 3 = true := by kernel_rfl
theorem recurses_eq : Tryz.prog.recurses 3 = true := by
  unfold Program.recurses
  rw [unfollowed_eq]
  rfl
theorem varsNamed_eq : Rows.diffListsUptoRow.named = Tryz.prog.varsNamed 3 := by kernel_rfl
theorem mapsRowed_eq : mapsRowed Tryz.prog = true := by kernel_rfl
theorem plainKeys_eq : Rows.diffListsUptoRow.plainKeys = Tryz.prog.plainKeys := by kernel_rfl
theorem joined : joinedFacts Tryz.prog 3 Tryz.f3 (Rows.OpenSpec.upto Rows.diffListsSpec).bare Rows.diffListsUptoRow = true := by
  unfold joinedFacts
  rw [← inPlace_eq, unfollowed_eq, recurses_eq, ← varsNamed_eq, laidOut, mapsRowed_eq, ← plainKeys_eq]
  refine Eq.trans ?_ (Eq.refl _)
  kernel_rfl
theorem named : Tryz.pinned.checked.prog.funcNamed Rows.diffListsUptoRow.func = some 3 := by kernel_rfl
theorem isInst : Tryz.f3.isInstance Tryz.pinned.checked.prog Rows.diffListsUptoRow.origin Rows.diffListsUptoRow.targs := of_decide_eq_true (by kernel_rfl)
theorem isWrap : Tryz.f3.isWrapper Tryz.pinned.checked.prog Rows.diffListsUptoRow.wrapper Rows.diffListsUptoRow.mainSum := by
  unfold Func.isWrapper
  first | (rw [if_pos (by decide +kernel)]; kernel_rfl) | (rw [if_neg (by decide +kernel)]; exact ⟨rfl, rfl⟩)
theorem saidUpto : Rows.DiffListsUptoSaid :=
  OpenClaim.holds_of_cond 3 Tryz.f3 rfl rfl rfl rfl rfl rfl rfl ⟨rfl, rfl, rfl, rfl, rfl⟩ rfl rfl rfl rfl rfl named Tryz.func3 joined isInst isWrap
    (fun os started H enc _ F => by rw [OpenClaim.pre_eq_preRow]; exact liftedUpto os started H enc F)
theorem plain (f : FuncId) (fn : Func) (hf : Tryz.pinned.checked.prog.funcNamed "captioner/captionerlaw17.DiffLists" = some f) (hfn : Tryz.pinned.checked.prog.funcs[f]? = some fn) :
    false = Tryz.pinned.checked.prog.looks [] ∧ ∀ (j : Nat) t, fn.params[j]? = some t → Tryz.pinned.checked.prog.wantsStandIn t = false := by
  obtain rfl : f = 3 := Option.some.inj ((show Tryz.prog.funcNamed "captioner/captionerlaw17.DiffLists" = some 3 by kernel_rfl).symm.trans hf) |>.symm
  obtain rfl : fn = Tryz.f3 := (Option.some.inj (Tryz.func3.symm.trans hfn)).symm
  refine ⟨by kernel_rfl, fun j t ht => ?_⟩
  rw [Tryz.params3] at ht
  have hm := Array.mem_of_getElem? ht
  simp at hm
  obtain rfl : t = 27 := by simpa using hm
  · exact (show Tryz.prog.wantsStandIn 27 = false by kernel_rfl)
/-- DiffLists returns true for all arguments of bulk at most 1048576. -/
theorem cardUpto : Rows.DiffListsUptoCardSaid :=
  Claim7.holds_tied_plain_at .later [] _ _ _ _ saidUpto (fun _ h => by cases h) (by kernel_rfl) (fun _ h => by cases h) diffListsUpto_row_tie rfl ⟨rfl, rfl⟩ (by kernel_rfl) rfl plain (by kernel_rfl)
#print axioms cardUpto
end Go.Proofs.YtnlnmbcaongehaaGreatDoor.diffLists
