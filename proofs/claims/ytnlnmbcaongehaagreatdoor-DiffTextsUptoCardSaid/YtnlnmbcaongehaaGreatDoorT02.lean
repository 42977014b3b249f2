/- Whether two changes are equal: diff.same and the reference's SameChange. (printed by gen_chgsame.py) -/
import Derived.Test.YtnlnmbcaongehaaGreatDoorBase09
import Derived.Test.YtnlnmbcaongehaaGreatDoorT00
import Derived.Test.YtnlnmbcaongehaaGreatDoorBase20
import Derived.Test.YtnlnmbcaongehaaGreatDoorBase12
import Derived.Test.YtnlnmbcaongehaaGreatDoorBase06
import Derived.Test.YtnlnmbcaongehaaGreatDoorT01
set_option linter.unusedVariables false
set_option linter.unusedSimpArgs false
namespace Go.Proofs.YtnlnmbcaongehaaGreatDoor
open Go.RowKit
/-- What lies in a change's cells. -/
theorem chg_row {w : World} {g : Nat} {x : Chg} (h : w.heap[g]? = some (.cells x.enc.toArray 54 (0, 0))) : w.cell? ⟨g, 0, none⟩ = some (.int .u8 x.sec) ∧ w.cell? ⟨g, 1, none⟩ = some (.int .i64 x.id) ∧ w.cell? ⟨g, 2, none⟩ = some (.string x.name) ∧ w.cell? ⟨g, 3, none⟩ = some (.bool x.added) ∧ w.cell? ⟨g, 4, none⟩ = some (.bool x.gone) ∧
    w.rangeAt g 5 x.oh.enc ∧ w.rangeAt g 10 x.nh.enc ∧ w.rangeAt g 15 x.rg.enc ∧ w.rangeAt g 22 x.nr.enc ∧ w.rangeAt g 29 x.oe.enc ∧ w.rangeAt g 36 x.ne.enc ∧ w.rangeAt g 43 x.oc.enc ∧ w.rangeAt g 51 x.nc.enc := by
  have c : ∀ j v, x.enc[j]? = some v → w.cell? ⟨g, j, none⟩ = some v := fun j v hv => by rw [cell_of_row _ _ j _ 54 (0, 0) h, List.getElem?_toArray]; exact hv
  have r : ∀ (A X S : List Value) (o : Nat), x.enc = A ++ (X ++ S) → A.length = o → w.rangeAt g o X := fun A X S o e hA => range_seg (A := A) (X := X) (S := S) (by rw [← e]; exact h) hA
  refine ⟨c 0 _ rfl, c 1 _ rfl, c 2 _ rfl, c 3 _ rfl, c 4 _ rfl, r [.int .u8 x.sec, .int .i64 x.id, .string x.name, .bool x.added, .bool x.gone] _ (x.nh.enc ++ (x.rg.enc ++ (x.nr.enc ++ (x.oe.enc ++ (x.ne.enc ++ (x.oc.enc ++ x.nc.enc)))))) 5 rfl rfl,
    r ([.int .u8 x.sec, .int .i64 x.id, .string x.name, .bool x.added, .bool x.gone] ++ x.oh.enc) _ (x.rg.enc ++ (x.nr.enc ++ (x.oe.enc ++ (x.ne.enc ++ (x.oc.enc ++ x.nc.enc))))) 10 rfl rfl,
    r ([.int .u8 x.sec, .int .i64 x.id, .string x.name, .bool x.added, .bool x.gone] ++ (x.oh.enc ++ x.nh.enc)) _ (x.nr.enc ++ (x.oe.enc ++ (x.ne.enc ++ (x.oc.enc ++ x.nc.enc)))) 15 rfl rfl,
    r ([.int .u8 x.sec, .int .i64 x.id, .string x.name, .bool x.added, .bool x.gone] ++ (x.oh.enc ++ (x.nh.enc ++ x.rg.enc))) _ (x.oe.enc ++ (x.ne.enc ++ (x.oc.enc ++ x.nc.enc))) 22 rfl rfl,
    r ([.int .u8 x.sec, .int .i64 x.id, .string x.name, .bool x.added, .bool x.gone] ++ (x.oh.enc ++ (x.nh.enc ++ (x.rg.enc ++ x.nr.enc)))) _ (x.ne.enc ++ (x.oc.enc ++ x.nc.enc)) 29 rfl rfl,
    r ([.int .u8 x.sec, .int .i64 x.id, .string x.name, .bool x.added, .bool x.gone] ++ (x.oh.enc ++ (x.nh.enc ++ (x.rg.enc ++ (x.nr.enc ++ x.oe.enc))))) _ (x.oc.enc ++ x.nc.enc) 36 rfl rfl,
    r ([.int .u8 x.sec, .int .i64 x.id, .string x.name, .bool x.added, .bool x.gone] ++ (x.oh.enc ++ (x.nh.enc ++ (x.rg.enc ++ (x.nr.enc ++ (x.oe.enc ++ x.ne.enc)))))) _ x.nc.enc 43 rfl rfl,
    r ([.int .u8 x.sec, .int .i64 x.id, .string x.name, .bool x.added, .bool x.gone] ++ (x.oh.enc ++ (x.nh.enc ++ (x.rg.enc ++ (x.nr.enc ++ (x.oe.enc ++ (x.ne.enc ++ x.oc.enc))))))) _ [] 51 (by rw [List.append_nil]; rfl) rfl⟩
theorem run_u8Eq (a b : Int) (w : World) : (binOp .eql 39 (.int .u8 a) (.int .u8 b)).run Tryz.prog w = .ok (.bool (a == b)) w := by simp [go_sem]
theorem run_i64Eq (a b : Int) (w : World) : (binOp .eql 2 (.int .i64 a) (.int .i64 b)).run Tryz.prog w = .ok (.bool (a == b)) w := by simp [go_sem]
theorem run_strEq (a b : ByteArray) (w : World) : (binOp .eql 9 (.string a) (.string b)).run Tryz.prog w = .ok (.bool (a.toList == b.toList)) w := by simp [go_sem]
theorem run_boolEq (a b : Bool) (w : World) : (binOp .eql 4 (.bool a) (.bool b)).run Tryz.prog w = .ok (.bool (a == b)) w := by simp [go_sem]
/-- Whether two changes are equal. -/
def chgEq (x y : Chg) : Bool := (x.sec == y.sec && (x.id == y.id && (x.name.toList == y.name.toList && (x.added == y.added && (x.gone == y.gone && (hdEq x.oh y.oh && (hdEq x.nh y.nh && (regEq x.rg y.rg && (regEq x.nr y.nr && (evEq x.oe y.oe && (evEq x.ne y.ne && (cmEq x.oc y.oc && cmEq x.nc y.nc))))))))))))
set_option maxRecDepth 100000 in
set_option maxHeartbeats 12800000 in
theorem sameChange_calls (x y : Chg) (w : World) (hx : x.lies w) (hy : y.lies w) (hf : x.fits) (hf' : y.fits) :
    Calls Tryz.prog 53 #[.agg x.enc.toArray, .agg y.enc.toArray] w fun e w' => e = .returned (.bool (chgEq x y)) ∧ Below w.heap.size w w' := by
  have HE1 := Lib.hid (fun (w1 : World) (h : Below w.heap.size w w1) => (show Calls Tryz.prog 50 #[.agg x.oe.enc.toArray, .agg y.oe.enc.toArray] w1 (fun e w' => e = .returned (.bool (evEq x.oe y.oe)) ∧ Below w1.heap.size w1 w') from refEvSame_calls x.oe y.oe w1 (RowsAt.later hx.1 h) (RowsAt.later hy.1 h) hf.1.2 hf.1.1))
  have HE2 := Lib.hid (fun (w1 : World) (h : Below w.heap.size w w1) => (show Calls Tryz.prog 50 #[.agg x.ne.enc.toArray, .agg y.ne.enc.toArray] w1 (fun e w' => e = .returned (.bool (evEq x.ne y.ne)) ∧ Below w1.heap.size w1 w') from refEvSame_calls x.ne y.ne w1 (RowsAt.later hx.2 h) (RowsAt.later hy.2 h) hf.2.2 hf.2.1))
  clear hx hy hf hf'
  have HB := Lib.hid (fun (w1 : World) (h : Below (w.heap.size + 2) ((w.alloc (.cells x.enc.toArray 54)).alloc (.cells y.enc.toArray 54)) w1) => box2_below h)
  have hb0 : Below (w.heap.size + 2) ((w.alloc (.cells x.enc.toArray 54)).alloc (.cells y.enc.toArray 54)) ((w.alloc (.cells x.enc.toArray 54)).alloc (.cells y.enc.toArray 54)) := Below.refl _ _
  have hsz : ((w.alloc (.cells x.enc.toArray 54)).alloc (.cells y.enc.toArray 54)).heap.size = w.heap.size + 2 := by simp
  have hk1 : ((w.alloc (.cells x.enc.toArray 54)).alloc (.cells y.enc.toArray 54)).heap[w.heap.size]? = some (.cells x.enc.toArray 54 (0, 0)) := by
    rw [Below.heap_alloc _ _ _ (by simp)]
    exact heap_alloc_last w _
  have hk2 : ((w.alloc (.cells x.enc.toArray 54)).alloc (.cells y.enc.toArray 54)).heap[w.heap.size + 1]? = some (.cells y.enc.toArray 54 (0, 0)) := by
    have := heap_alloc_last (w.alloc (.cells x.enc.toArray 54)) (.cells y.enc.toArray 54)
    rwa [World.size_alloc] at this
  generalize hW0 : (w.alloc (.cells x.enc.toArray 54)).alloc (.cells y.enc.toArray 54) = W0 at *
  have HW0 := Lib.hid hW0
  have HSZ := Lib.hid hsz
  have HT0 := Lib.hid (fun (w2 w3 : World) (h : Below (w.heap.size + 2) W0 w2) (h3 : Below w2.heap.size w2 w3) => (h.trans (h3.mono (by have := h.size; rw [HSZ.out] at this; exact this)) : Below (w.heap.size + 2) W0 w3))
  have bx := fun (w' : World) (h : Below (w.heap.size + 2) W0 w') => chg_row (x := x) ((h.block _ (by omega)).trans hk1)
  have by_ := fun (w' : World) (h : Below (w.heap.size + 2) W0 w') => chg_row (x := y) ((h.block _ (by omega)).trans hk2)
  have f0 := fun (w' : World) (h : Below (w.heap.size + 2) W0 w') => (bx w' h).1
  have f1 := fun (w' : World) (h : Below (w.heap.size + 2) W0 w') => (bx w' h).2.1
  have f2 := fun (w' : World) (h : Below (w.heap.size + 2) W0 w') => (bx w' h).2.2.1
  have f3 := fun (w' : World) (h : Below (w.heap.size + 2) W0 w') => (bx w' h).2.2.2.1
  have f4 := fun (w' : World) (h : Below (w.heap.size + 2) W0 w') => (bx w' h).2.2.2.2.1
  have g0 := fun (w' : World) (h : Below (w.heap.size + 2) W0 w') => (by_ w' h).1
  have g1 := fun (w' : World) (h : Below (w.heap.size + 2) W0 w') => (by_ w' h).2.1
  have g2 := fun (w' : World) (h : Below (w.heap.size + 2) W0 w') => (by_ w' h).2.2.1
  have g3 := fun (w' : World) (h : Below (w.heap.size + 2) W0 w') => (by_ w' h).2.2.2.1
  have g4 := fun (w' : World) (h : Below (w.heap.size + 2) W0 w') => (by_ w' h).2.2.2.2.1
  have X0 := Lib.hid (fun (w' : World) (h : Below (w.heap.size + 2) W0 w') => (bx w' h).2.2.2.2.2.1)
  have Y0 := Lib.hid (fun (w' : World) (h : Below (w.heap.size + 2) W0 w') => (by_ w' h).2.2.2.2.2.1)
  have X1 := Lib.hid (fun (w' : World) (h : Below (w.heap.size + 2) W0 w') => (bx w' h).2.2.2.2.2.2.1)
  have Y1 := Lib.hid (fun (w' : World) (h : Below (w.heap.size + 2) W0 w') => (by_ w' h).2.2.2.2.2.2.1)
  have X2 := Lib.hid (fun (w' : World) (h : Below (w.heap.size + 2) W0 w') => (bx w' h).2.2.2.2.2.2.2.1)
  have Y2 := Lib.hid (fun (w' : World) (h : Below (w.heap.size + 2) W0 w') => (by_ w' h).2.2.2.2.2.2.2.1)
  have X3 := Lib.hid (fun (w' : World) (h : Below (w.heap.size + 2) W0 w') => (bx w' h).2.2.2.2.2.2.2.2.1)
  have Y3 := Lib.hid (fun (w' : World) (h : Below (w.heap.size + 2) W0 w') => (by_ w' h).2.2.2.2.2.2.2.2.1)
  have X4 := Lib.hid (fun (w' : World) (h : Below (w.heap.size + 2) W0 w') => (bx w' h).2.2.2.2.2.2.2.2.2.1)
  have Y4 := Lib.hid (fun (w' : World) (h : Below (w.heap.size + 2) W0 w') => (by_ w' h).2.2.2.2.2.2.2.2.2.1)
  have X5 := Lib.hid (fun (w' : World) (h : Below (w.heap.size + 2) W0 w') => (bx w' h).2.2.2.2.2.2.2.2.2.2.1)
  have Y5 := Lib.hid (fun (w' : World) (h : Below (w.heap.size + 2) W0 w') => (by_ w' h).2.2.2.2.2.2.2.2.2.2.1)
  have X6 := Lib.hid (fun (w' : World) (h : Below (w.heap.size + 2) W0 w') => (bx w' h).2.2.2.2.2.2.2.2.2.2.2.1)
  have Y6 := Lib.hid (fun (w' : World) (h : Below (w.heap.size + 2) W0 w') => (by_ w' h).2.2.2.2.2.2.2.2.2.2.2.1)
  have X7 := Lib.hid (fun (w' : World) (h : Below (w.heap.size + 2) W0 w') => (bx w' h).2.2.2.2.2.2.2.2.2.2.2.2)
  have Y7 := Lib.hid (fun (w' : World) (h : Below (w.heap.size + 2) W0 w') => (by_ w' h).2.2.2.2.2.2.2.2.2.2.2.2)
  have e0 := fun wx => run_u8Eq x.sec y.sec wx
  have e1 := fun wx => run_i64Eq x.id y.id wx
  have e2 := fun wx => run_strEq x.name y.name wx
  have e3 := fun wx => run_boolEq x.added y.added wx
  have e4 := fun wx => run_boolEq x.gone y.gone wx
  have r1 := fun wx => run_hdEq x.oh y.oh wx
  have r2 := fun wx => run_hdEq x.nh y.nh wx
  have r3 := fun wx => run_regEq x.rg y.rg wx
  have r4 := fun wx => run_regEq x.nr y.nr wx
  have r5 := fun wx => run_cmEq x.oc y.oc wx
  have r6 := fun wx => run_cmEq x.nc y.nc wx
  have S41 := Lib.hid (fun (z : Hd) => (show (Tryz.prog.info? 41).map (·.size) = some z.enc.length from (by kernel_rfl : (Tryz.prog.info? 41).map (·.size) = some 5)))
  have S44 := Lib.hid (fun (z : Reg) => (show (Tryz.prog.info? 44).map (·.size) = some z.enc.length from (by kernel_rfl : (Tryz.prog.info? 44).map (·.size) = some 7)))
  have S50 := Lib.hid (fun (z : Ev) => (show (Tryz.prog.info? 50).map (·.size) = some z.enc.length from (by kernel_rfl : (Tryz.prog.info? 50).map (·.size) = some 7)))
  have S52 := Lib.hid (fun (z : Cm) => (show (Tryz.prog.info? 52).map (·.size) = some z.enc.length from (by kernel_rfl : (Tryz.prog.info? 52).map (·.size) = some 8)))
  clear hW0 hsz hk1 hk2 bx by_
  unfold chgEq
  generalize x.enc.toArray = ds at *
  generalize y.enc.toArray = qs at *
  obtain ⟨sec, id, name, ad, gn, oh, nh, rg, nr, oe, ne, oc, nc⟩ := x
  obtain ⟨sec', id', name', ad', gn', oh', nh', rg', nr', oe', ne', oc', nc'⟩ := y
  simp only [] at *
  generalize hE0 : (sec == sec') = E0 at *
  generalize hE1 : (id == id') = E1 at *
  generalize hE2 : (name.toList == name'.toList) = E2 at *
  generalize hE3 : (ad == ad') = E3 at *
  generalize hE4 : (gn == gn') = E4 at *
  generalize hdEq oh oh' = R5 at *
  generalize hdEq nh nh' = R6 at *
  generalize regEq rg rg' = R7 at *
  generalize regEq nr nr' = R8 at *
  generalize evEq oe oe' = R9 at *
  generalize evEq ne ne' = R10 at *
  generalize cmEq oc oc' = R11 at *
  generalize cmEq nc nc' = R12 at *
  have LX0 := Lib.hid (S41.out oh)
  have LY0 := Lib.hid (S41.out oh')
  have LX1 := Lib.hid (S41.out nh)
  have LY1 := Lib.hid (S41.out nh')
  have LX2 := Lib.hid (S44.out rg)
  have LY2 := Lib.hid (S44.out rg')
  have LX3 := Lib.hid (S44.out nr)
  have LY3 := Lib.hid (S44.out nr')
  have LX4 := Lib.hid (S50.out oe)
  have LY4 := Lib.hid (S50.out oe')
  have LX5 := Lib.hid (S50.out ne)
  have LY5 := Lib.hid (S50.out ne')
  have LX6 := Lib.hid (S52.out oc)
  have LY6 := Lib.hid (S52.out oc')
  have LX7 := Lib.hid (S52.out nc)
  have LY7 := Lib.hid (S52.out nc')
  clear S41 S44 S50 S52
  generalize oh.enc = OH at *
  generalize oh'.enc = OH' at *
  generalize nh.enc = NH at *
  generalize nh'.enc = NH' at *
  generalize rg.enc = RG at *
  generalize rg'.enc = RG' at *
  generalize nr.enc = NR at *
  generalize nr'.enc = NR' at *
  generalize oe.enc = OE at *
  generalize oe'.enc = OE' at *
  generalize ne.enc = NE at *
  generalize ne'.enc = NE' at *
  generalize oc.enc = OC at *
  generalize oc'.enc = OC' at *
  generalize nc.enc = NC at *
  generalize nc'.enc = NC' at *
  generalize hQ : (fun (e : Ending) (w' : World) => e = .returned (.bool (E0 && (E1 && (E2 && (E3 && (E4 && (R5 && (R6 && (R7 && (R8 && (R9 && (R10 && (R11 && R12))))))))))))) ∧ Below w.heap.size w w') = Q
  have HQ := Lib.hid (fun (r : Bool) (hr : r = (E0 && (E1 && (E2 && (E3 && (E4 && (R5 && (R6 && (R7 && (R8 && (R9 && (R10 && (R11 && R12))))))))))))) w' (hb : Below w.heap.size w w') => show Q (.returned (.bool r)) w' from hQ ▸ ⟨by rw [hr], hb⟩)
  clear hQ
  go_enter Tryz.func53, Tryz.ntmps53
  go_upto_region 1 with fail
  rw [HW0.out]
  rename_i K1 hK1
  have HK1 := Lib.hid hK1
  clear hK1
  have END := Lib.hid (show ∀ (a' : Act) (w' : World) (r : Bool), a'.tmps.size = 94 → a'.defers = [] → a'.tmps[4]? = some (.bool r) → r = (E0 && (E1 && (E2 && (E3 && (E4 && (R5 && (R6 && (R7 && (R8 && (R9 && (R10 && (R11 && R12)))))))))))) → Below w.heap.size w w' → K1 a' w' from by
    rintro ⟨tm, df⟩ w_ r h1 h2 h3 hr hb
    simp only at h1 h2 h3
    subst h2
    refine HK1.out _ _ ?_
    go_wp2_with fail
    rw [show tm.getD 4 undef = .bool r from by rw [Array.getD_eq_getD_getElem?, h3]; rfl]
    exact HQ.out r hr w_ hb)
  refine wp_region_lit ?_
  refine wpList_val (v := .pointer (some ⟨w.heap.size, 0, none⟩)) rfl (by go_simp) ?_
  try simp only [Act.put, List.setIfInBounds_toArray, List.set_cons_zero, List.set_cons_succ]
  refine wpList_val (v := .int .u8 sec) rfl (by go_simp) ?_
  try simp only [Act.put, List.setIfInBounds_toArray, List.set_cons_zero, List.set_cons_succ]
  refine wpList_val (v := .pointer (some ⟨w.heap.size + 1, 0, none⟩)) rfl (by go_simp) ?_
  try simp only [Act.put, List.setIfInBounds_toArray, List.set_cons_zero, List.set_cons_succ]
  refine wpList_val (v := .int .u8 sec') rfl (by go_simp) ?_
  try simp only [Act.put, List.setIfInBounds_toArray, List.set_cons_zero, List.set_cons_succ]
  refine wpList_val (v := .bool E0) rfl (by go_simp) ?_
  try simp only [Act.put, List.setIfInBounds_toArray, List.set_cons_zero, List.set_cons_succ]
  refine wpList_val (v := .bool E0) rfl (by go_simp) ?_
  try simp only [Act.put, List.setIfInBounds_toArray, List.set_cons_zero, List.set_cons_succ]
  cases E0 with
  | false =>
    refine falseTail_at 94 4 [10] (by kernel_rfl) rfl (fun s_ hs_ => by rw [List.mem_singleton.1 hs_]; rfl) (fun a' h1 h2 h3 => ?_)
    exact END.out a' _ false h1 h2 h3 (by simp) (HB.out _ hb0)
  | true =>
    refine wpList_val (v := .pointer (some ⟨w.heap.size, 1, none⟩)) rfl (by go_simp) ?_
    try simp only [Act.put, List.setIfInBounds_toArray, List.set_cons_zero, List.set_cons_succ]
    refine wpList_val (v := .int .i64 id) rfl (by go_simp) ?_
    try simp only [Act.put, List.setIfInBounds_toArray, List.set_cons_zero, List.set_cons_succ]
    refine wpList_val (v := .pointer (some ⟨w.heap.size + 1, 1, none⟩)) rfl (by go_simp) ?_
    try simp only [Act.put, List.setIfInBounds_toArray, List.set_cons_zero, List.set_cons_succ]
    refine wpList_val (v := .int .i64 id') rfl (by go_simp) ?_
    try simp only [Act.put, List.setIfInBounds_toArray, List.set_cons_zero, List.set_cons_succ]
    refine wpList_val (v := .bool E1) rfl (by go_simp) ?_
    try simp only [Act.put, List.setIfInBounds_toArray, List.set_cons_zero, List.set_cons_succ]
    refine wpList_val (v := .bool E1) rfl (by go_simp) ?_
    try simp only [Act.put, List.setIfInBounds_toArray, List.set_cons_zero, List.set_cons_succ]
    refine wpList_val (v := .bool E1) rfl (by go_simp) ?_
    try simp only [Act.put, List.setIfInBounds_toArray, List.set_cons_zero, List.set_cons_succ]
    cases E1 with
    | false =>
      refine falseTail_at 94 4 [17] (by kernel_rfl) rfl (fun s_ hs_ => by rw [List.mem_singleton.1 hs_]; rfl) (fun a' h1 h2 h3 => ?_)
      exact END.out a' _ false h1 h2 h3 (by simp) (HB.out _ hb0)
    | true =>
      refine wpList_val (v := .pointer (some ⟨w.heap.size, 2, none⟩)) rfl (by go_simp) ?_
      try simp only [Act.put, List.setIfInBounds_toArray, List.set_cons_zero, List.set_cons_succ]
      refine wpList_val (v := .string name) rfl (by go_simp) ?_
      try simp only [Act.put, List.setIfInBounds_toArray, List.set_cons_zero, List.set_cons_succ]
      refine wpList_val (v := .pointer (some ⟨w.heap.size + 1, 2, none⟩)) rfl (by go_simp) ?_
      try simp only [Act.put, List.setIfInBounds_toArray, List.set_cons_zero, List.set_cons_succ]
      refine wpList_val (v := .string name') rfl (by go_simp) ?_
      try simp only [Act.put, List.setIfInBounds_toArray, List.set_cons_zero, List.set_cons_succ]
      refine wpList_val (v := .bool E2) rfl (by go_simp) ?_
      try simp only [Act.put, List.setIfInBounds_toArray, List.set_cons_zero, List.set_cons_succ]
      refine wpList_val (v := .bool E2) rfl (by go_simp) ?_
      try simp only [Act.put, List.setIfInBounds_toArray, List.set_cons_zero, List.set_cons_succ]
      refine wpList_val (v := .bool E2) rfl (by go_simp) ?_
      try simp only [Act.put, List.setIfInBounds_toArray, List.set_cons_zero, List.set_cons_succ]
      cases E2 with
      | false =>
        refine falseTail_at 94 4 [24] (by kernel_rfl) rfl (fun s_ hs_ => by rw [List.mem_singleton.1 hs_]; rfl) (fun a' h1 h2 h3 => ?_)
        exact END.out a' _ false h1 h2 h3 (by simp) (HB.out _ hb0)
      | true =>
        refine wpList_val (v := .pointer (some ⟨w.heap.size, 3, none⟩)) rfl (by go_simp) ?_
        try simp only [Act.put, List.setIfInBounds_toArray, List.set_cons_zero, List.set_cons_succ]
        refine wpList_val (v := .bool ad) rfl (by go_simp) ?_
        try simp only [Act.put, List.setIfInBounds_toArray, List.set_cons_zero, List.set_cons_succ]
        refine wpList_val (v := .pointer (some ⟨w.heap.size + 1, 3, none⟩)) rfl (by go_simp) ?_
        try simp only [Act.put, List.setIfInBounds_toArray, List.set_cons_zero, List.set_cons_succ]
        refine wpList_val (v := .bool ad') rfl (by go_simp) ?_
        try simp only [Act.put, List.setIfInBounds_toArray, List.set_cons_zero, List.set_cons_succ]
        refine wpList_val (v := .bool E3) rfl (by go_simp) ?_
        try simp only [Act.put, List.setIfInBounds_toArray, List.set_cons_zero, List.set_cons_succ]
        refine wpList_val (v := .bool E3) rfl (by go_simp) ?_
        try simp only [Act.put, List.setIfInBounds_toArray, List.set_cons_zero, List.set_cons_succ]
        refine wpList_val (v := .bool E3) rfl (by go_simp) ?_
        try simp only [Act.put, List.setIfInBounds_toArray, List.set_cons_zero, List.set_cons_succ]
        cases E3 with
        | false =>
          refine falseTail_at 94 4 [31] (by kernel_rfl) rfl (fun s_ hs_ => by rw [List.mem_singleton.1 hs_]; rfl) (fun a' h1 h2 h3 => ?_)
          exact END.out a' _ false h1 h2 h3 (by simp) (HB.out _ hb0)
        | true =>
          refine wpList_val (v := .pointer (some ⟨w.heap.size, 4, none⟩)) rfl (by go_simp) ?_
          try simp only [Act.put, List.setIfInBounds_toArray, List.set_cons_zero, List.set_cons_succ]
          refine wpList_val (v := .bool gn) rfl (by go_simp) ?_
          try simp only [Act.put, List.setIfInBounds_toArray, List.set_cons_zero, List.set_cons_succ]
          refine wpList_val (v := .pointer (some ⟨w.heap.size + 1, 4, none⟩)) rfl (by go_simp) ?_
          try simp only [Act.put, List.setIfInBounds_toArray, List.set_cons_zero, List.set_cons_succ]
          refine wpList_val (v := .bool gn') rfl (by go_simp) ?_
          try simp only [Act.put, List.setIfInBounds_toArray, List.set_cons_zero, List.set_cons_succ]
          refine wpList_val (v := .bool E4) rfl (by go_simp) ?_
          try simp only [Act.put, List.setIfInBounds_toArray, List.set_cons_zero, List.set_cons_succ]
          refine wpList_val (v := .bool E4) rfl (by go_simp) ?_
          try simp only [Act.put, List.setIfInBounds_toArray, List.set_cons_zero, List.set_cons_succ]
          refine wpList_val (v := .bool E4) rfl (by go_simp) ?_
          try simp only [Act.put, List.setIfInBounds_toArray, List.set_cons_zero, List.set_cons_succ]
          cases E4 with
          | false =>
            refine falseTail_at 94 4 [38] (by kernel_rfl) rfl (fun s_ hs_ => by rw [List.mem_singleton.1 hs_]; rfl) (fun a' h1 h2 h3 => ?_)
            exact END.out a' _ false h1 h2 h3 (by simp) (HB.out _ hb0)
          | true =>
            refine wpList_val (v := .pointer (some ⟨w.heap.size, 5, none⟩)) rfl (by go_simp) ?_
            try simp only [Act.put, List.setIfInBounds_toArray, List.set_cons_zero, List.set_cons_succ]
            refine wpList_load_want 41 (.tmp 39) rfl rfl w.heap.size 5 rfl OH _ (X0.out _ hb0) Tryz.underlying41 rfl LX0.out ?_
            try simp only [Act.put, List.setIfInBounds_toArray, List.set_cons_zero, List.set_cons_succ]
            refine wpList_val (v := .pointer (some ⟨w.heap.size + 1, 5, none⟩)) rfl (by go_simp) ?_
            try simp only [Act.put, List.setIfInBounds_toArray, List.set_cons_zero, List.set_cons_succ]
            refine wpList_load_want 41 (.tmp 41) rfl rfl (w.heap.size + 1) 5 rfl OH' _ (Y0.out _ hb0) Tryz.underlying41 rfl LY0.out ?_
            try simp only [Act.put, List.setIfInBounds_toArray, List.set_cons_zero, List.set_cons_succ]
            refine wpList_val (v := .bool R5) rfl (by go_simp) ?_
            try simp only [Act.put, List.setIfInBounds_toArray, List.set_cons_zero, List.set_cons_succ]
            refine wpList_val (v := .bool R5) rfl (by go_simp) ?_
            try simp only [Act.put, List.setIfInBounds_toArray, List.set_cons_zero, List.set_cons_succ]
            refine wpList_val (v := .bool R5) rfl (by go_simp) ?_
            try simp only [Act.put, List.setIfInBounds_toArray, List.set_cons_zero, List.set_cons_succ]
            cases R5 with
            | false =>
              refine falseTail_at 94 4 [45] (by kernel_rfl) rfl (fun s_ hs_ => by rw [List.mem_singleton.1 hs_]; rfl) (fun a' h1 h2 h3 => ?_)
              exact END.out a' _ false h1 h2 h3 (by simp) (HB.out _ hb0)
            | true =>
              refine wpList_val (v := .pointer (some ⟨w.heap.size, 10, none⟩)) rfl (by go_simp) ?_
              try simp only [Act.put, List.setIfInBounds_toArray, List.set_cons_zero, List.set_cons_succ]
              refine wpList_load_want 41 (.tmp 46) rfl rfl w.heap.size 10 rfl NH _ (X1.out _ hb0) Tryz.underlying41 rfl LX1.out ?_
              try simp only [Act.put, List.setIfInBounds_toArray, List.set_cons_zero, List.set_cons_succ]
              refine wpList_val (v := .pointer (some ⟨w.heap.size + 1, 10, none⟩)) rfl (by go_simp) ?_
              try simp only [Act.put, List.setIfInBounds_toArray, List.set_cons_zero, List.set_cons_succ]
              refine wpList_load_want 41 (.tmp 48) rfl rfl (w.heap.size + 1) 10 rfl NH' _ (Y1.out _ hb0) Tryz.underlying41 rfl LY1.out ?_
              try simp only [Act.put, List.setIfInBounds_toArray, List.set_cons_zero, List.set_cons_succ]
              refine wpList_val (v := .bool R6) rfl (by go_simp) ?_
              try simp only [Act.put, List.setIfInBounds_toArray, List.set_cons_zero, List.set_cons_succ]
              refine wpList_val (v := .bool R6) rfl (by go_simp) ?_
              try simp only [Act.put, List.setIfInBounds_toArray, List.set_cons_zero, List.set_cons_succ]
              refine wpList_val (v := .bool R6) rfl (by go_simp) ?_
              try simp only [Act.put, List.setIfInBounds_toArray, List.set_cons_zero, List.set_cons_succ]
              cases R6 with
              | false =>
                refine falseTail_at 94 4 [52] (by kernel_rfl) rfl (fun s_ hs_ => by rw [List.mem_singleton.1 hs_]; rfl) (fun a' h1 h2 h3 => ?_)
                exact END.out a' _ false h1 h2 h3 (by simp) (HB.out _ hb0)
              | true =>
                refine wpList_val (v := .pointer (some ⟨w.heap.size, 15, none⟩)) rfl (by go_simp) ?_
                try simp only [Act.put, List.setIfInBounds_toArray, List.set_cons_zero, List.set_cons_succ]
                refine wpList_load_want 44 (.tmp 53) rfl rfl w.heap.size 15 rfl RG _ (X2.out _ hb0) Tryz.underlying44 rfl LX2.out ?_
                try simp only [Act.put, List.setIfInBounds_toArray, List.set_cons_zero, List.set_cons_succ]
                refine wpList_val (v := .pointer (some ⟨w.heap.size + 1, 15, none⟩)) rfl (by go_simp) ?_
                try simp only [Act.put, List.setIfInBounds_toArray, List.set_cons_zero, List.set_cons_succ]
                refine wpList_load_want 44 (.tmp 55) rfl rfl (w.heap.size + 1) 15 rfl RG' _ (Y2.out _ hb0) Tryz.underlying44 rfl LY2.out ?_
                try simp only [Act.put, List.setIfInBounds_toArray, List.set_cons_zero, List.set_cons_succ]
                refine wpList_val (v := .bool R7) rfl (by go_simp) ?_
                try simp only [Act.put, List.setIfInBounds_toArray, List.set_cons_zero, List.set_cons_succ]
                refine wpList_val (v := .bool R7) rfl (by go_simp) ?_
                try simp only [Act.put, List.setIfInBounds_toArray, List.set_cons_zero, List.set_cons_succ]
                refine wpList_val (v := .bool R7) rfl (by go_simp) ?_
                try simp only [Act.put, List.setIfInBounds_toArray, List.set_cons_zero, List.set_cons_succ]
                cases R7 with
                | false =>
                  refine falseTail_at 94 4 [59] (by kernel_rfl) rfl (fun s_ hs_ => by rw [List.mem_singleton.1 hs_]; rfl) (fun a' h1 h2 h3 => ?_)
                  exact END.out a' _ false h1 h2 h3 (by simp) (HB.out _ hb0)
                | true =>
                  refine wpList_val (v := .pointer (some ⟨w.heap.size, 22, none⟩)) rfl (by go_simp) ?_
                  try simp only [Act.put, List.setIfInBounds_toArray, List.set_cons_zero, List.set_cons_succ]
                  refine wpList_load_want 44 (.tmp 60) rfl rfl w.heap.size 22 rfl NR _ (X3.out _ hb0) Tryz.underlying44 rfl LX3.out ?_
                  try simp only [Act.put, List.setIfInBounds_toArray, List.set_cons_zero, List.set_cons_succ]
                  refine wpList_val (v := .pointer (some ⟨w.heap.size + 1, 22, none⟩)) rfl (by go_simp) ?_
                  try simp only [Act.put, List.setIfInBounds_toArray, List.set_cons_zero, List.set_cons_succ]
                  refine wpList_load_want 44 (.tmp 62) rfl rfl (w.heap.size + 1) 22 rfl NR' _ (Y3.out _ hb0) Tryz.underlying44 rfl LY3.out ?_
                  try simp only [Act.put, List.setIfInBounds_toArray, List.set_cons_zero, List.set_cons_succ]
                  refine wpList_val (v := .bool R8) rfl (by go_simp) ?_
                  try simp only [Act.put, List.setIfInBounds_toArray, List.set_cons_zero, List.set_cons_succ]
                  refine wpList_val (v := .bool R8) rfl (by go_simp) ?_
                  try simp only [Act.put, List.setIfInBounds_toArray, List.set_cons_zero, List.set_cons_succ]
                  refine wpList_val (v := .bool R8) rfl (by go_simp) ?_
                  try simp only [Act.put, List.setIfInBounds_toArray, List.set_cons_zero, List.set_cons_succ]
                  cases R8 with
                  | false =>
                    refine falseTail_at 94 4 [66] (by kernel_rfl) rfl (fun s_ hs_ => by rw [List.mem_singleton.1 hs_]; rfl) (fun a' h1 h2 h3 => ?_)
                    exact END.out a' _ false h1 h2 h3 (by simp) (HB.out _ hb0)
                  | true =>
                    refine wpList_val (v := .pointer (some ⟨w.heap.size, 29, none⟩)) rfl (by go_simp) ?_
                    try simp only [Act.put, List.setIfInBounds_toArray, List.set_cons_zero, List.set_cons_succ]
                    refine wpList_load_want 50 (.tmp 67) rfl rfl w.heap.size 29 rfl OE _ (X4.out _ hb0) Tryz.underlying50 rfl LX4.out ?_
                    try simp only [Act.put, List.setIfInBounds_toArray, List.set_cons_zero, List.set_cons_succ]
                    refine wpList_val (v := .pointer (some ⟨w.heap.size + 1, 29, none⟩)) rfl (by go_simp) ?_
                    try simp only [Act.put, List.setIfInBounds_toArray, List.set_cons_zero, List.set_cons_succ]
                    refine wpList_load_want 50 (.tmp 69) rfl rfl (w.heap.size + 1) 29 rfl OE' _ (Y4.out _ hb0) Tryz.underlying50 rfl LY4.out ?_
                    try simp only [Act.put, List.setIfInBounds_toArray, List.set_cons_zero, List.set_cons_succ]
                    refine BigFrame.wpList_want rfl (fun K hK => ?_)
                    have HKK := Lib.hid hK
                    clear hK
                    go_simp
                    refine (HE1.out _ (HB.out _ hb0)).mono ?_
                    rintro e w1 ⟨rfl, hb1⟩
                    have hc1 := HT0.out _ _ hb0 hb1
                    clear hb1 HE1
                    refine HKK.out _ _ ?_
                    clear HKK
                    try simp only [Act.put, List.setIfInBounds_toArray, List.set_cons_zero, List.set_cons_succ]
                    refine wpList_val (v := .bool R9) rfl (by go_simp) ?_
                    try simp only [Act.put, List.setIfInBounds_toArray, List.set_cons_zero, List.set_cons_succ]
                    refine wpList_val (v := .bool R9) rfl (by go_simp) ?_
                    try simp only [Act.put, List.setIfInBounds_toArray, List.set_cons_zero, List.set_cons_succ]
                    cases R9 with
                    | false =>
                      refine falseTail_at 94 4 [73] (by kernel_rfl) rfl (fun s_ hs_ => by rw [List.mem_singleton.1 hs_]; rfl) (fun a' h1 h2 h3 => ?_)
                      exact END.out a' _ false h1 h2 h3 (by simp) (HB.out _ hc1)
                    | true =>
                      refine wpList_val (v := .pointer (some ⟨w.heap.size, 36, none⟩)) rfl (by go_simp) ?_
                      try simp only [Act.put, List.setIfInBounds_toArray, List.set_cons_zero, List.set_cons_succ]
                      refine wpList_load_want 50 (.tmp 74) rfl rfl w.heap.size 36 rfl NE _ (X5.out _ hc1) Tryz.underlying50 rfl LX5.out ?_
                      try simp only [Act.put, List.setIfInBounds_toArray, List.set_cons_zero, List.set_cons_succ]
                      refine wpList_val (v := .pointer (some ⟨w.heap.size + 1, 36, none⟩)) rfl (by go_simp) ?_
                      try simp only [Act.put, List.setIfInBounds_toArray, List.set_cons_zero, List.set_cons_succ]
                      refine wpList_load_want 50 (.tmp 76) rfl rfl (w.heap.size + 1) 36 rfl NE' _ (Y5.out _ hc1) Tryz.underlying50 rfl LY5.out ?_
                      try simp only [Act.put, List.setIfInBounds_toArray, List.set_cons_zero, List.set_cons_succ]
                      refine BigFrame.wpList_want rfl (fun K hK => ?_)
                      have HKK := Lib.hid hK
                      clear hK
                      go_simp
                      refine (HE2.out _ (HB.out _ hc1)).mono ?_
                      rintro e w2 ⟨rfl, hb2⟩
                      have hc2 := HT0.out _ _ hc1 hb2
                      clear hb2 HE2
                      refine HKK.out _ _ ?_
                      clear HKK
                      try simp only [Act.put, List.setIfInBounds_toArray, List.set_cons_zero, List.set_cons_succ]
                      refine wpList_val (v := .bool R10) rfl (by go_simp) ?_
                      try simp only [Act.put, List.setIfInBounds_toArray, List.set_cons_zero, List.set_cons_succ]
                      refine wpList_val (v := .bool R10) rfl (by go_simp) ?_
                      try simp only [Act.put, List.setIfInBounds_toArray, List.set_cons_zero, List.set_cons_succ]
                      cases R10 with
                      | false =>
                        refine falseTail_at 94 4 [80] (by kernel_rfl) rfl (fun s_ hs_ => by rw [List.mem_singleton.1 hs_]; rfl) (fun a' h1 h2 h3 => ?_)
                        exact END.out a' _ false h1 h2 h3 (by simp) (HB.out _ hc2)
                      | true =>
                        refine wpList_val (v := .pointer (some ⟨w.heap.size, 43, none⟩)) rfl (by go_simp) ?_
                        try simp only [Act.put, List.setIfInBounds_toArray, List.set_cons_zero, List.set_cons_succ]
                        refine wpList_load_want 52 (.tmp 81) rfl rfl w.heap.size 43 rfl OC _ (X6.out _ hc2) Tryz.underlying52 rfl LX6.out ?_
                        try simp only [Act.put, List.setIfInBounds_toArray, List.set_cons_zero, List.set_cons_succ]
                        refine wpList_val (v := .pointer (some ⟨w.heap.size + 1, 43, none⟩)) rfl (by go_simp) ?_
                        try simp only [Act.put, List.setIfInBounds_toArray, List.set_cons_zero, List.set_cons_succ]
                        refine wpList_load_want 52 (.tmp 83) rfl rfl (w.heap.size + 1) 43 rfl OC' _ (Y6.out _ hc2) Tryz.underlying52 rfl LY6.out ?_
                        try simp only [Act.put, List.setIfInBounds_toArray, List.set_cons_zero, List.set_cons_succ]
                        refine wpList_val (v := .bool R11) rfl (by go_simp) ?_
                        try simp only [Act.put, List.setIfInBounds_toArray, List.set_cons_zero, List.set_cons_succ]
                        refine wpList_val (v := .bool R11) rfl (by go_simp) ?_
                        try simp only [Act.put, List.setIfInBounds_toArray, List.set_cons_zero, List.set_cons_succ]
                        refine wpList_val (v := .bool R11) rfl (by go_simp) ?_
                        try simp only [Act.put, List.setIfInBounds_toArray, List.set_cons_zero, List.set_cons_succ]
                        cases R11 with
                        | false =>
                          refine falseTail_at 94 4 [87] (by kernel_rfl) rfl (fun s_ hs_ => by rw [List.mem_singleton.1 hs_]; rfl) (fun a' h1 h2 h3 => ?_)
                          exact END.out a' _ false h1 h2 h3 (by simp) (HB.out _ hc2)
                        | true =>
                          refine wpList_val (v := .pointer (some ⟨w.heap.size, 51, none⟩)) rfl (by go_simp) ?_
                          try simp only [Act.put, List.setIfInBounds_toArray, List.set_cons_zero, List.set_cons_succ]
                          refine wpList_load_want 52 (.tmp 88) rfl rfl w.heap.size 51 rfl NC _ (X7.out _ hc2) Tryz.underlying52 rfl LX7.out ?_
                          try simp only [Act.put, List.setIfInBounds_toArray, List.set_cons_zero, List.set_cons_succ]
                          refine wpList_val (v := .pointer (some ⟨w.heap.size + 1, 51, none⟩)) rfl (by go_simp) ?_
                          try simp only [Act.put, List.setIfInBounds_toArray, List.set_cons_zero, List.set_cons_succ]
                          refine wpList_load_want 52 (.tmp 90) rfl rfl (w.heap.size + 1) 51 rfl NC' _ (Y7.out _ hc2) Tryz.underlying52 rfl LY7.out ?_
                          try simp only [Act.put, List.setIfInBounds_toArray, List.set_cons_zero, List.set_cons_succ]
                          refine wpList_val (v := .bool R12) rfl (by go_simp) ?_
                          try simp only [Act.put, List.setIfInBounds_toArray, List.set_cons_zero, List.set_cons_succ]
                          refine wpList_val (v := .bool R12) rfl (by go_simp) ?_
                          try simp only [Act.put, List.setIfInBounds_toArray, List.set_cons_zero, List.set_cons_succ]
                          refine wpList_val (v := .bool R12) rfl (by go_simp) ?_
                          try simp only [Act.put, List.setIfInBounds_toArray, List.set_cons_zero, List.set_cons_succ]
                          exact END.out _ _ _ rfl rfl rfl (by simp) (HB.out _ hc2)
set_option maxRecDepth 100000 in
set_option maxHeartbeats 12800000 in
theorem same72_calls (x y : Chg) (w : World) (hx : x.lies w) (hy : y.lies w) (hf : x.fits) (hf' : y.fits) :
    Calls Tryz.prog 72 #[.agg x.enc.toArray, .agg y.enc.toArray] w fun e w' => e = .returned (.bool (chgEq x y)) ∧ Below w.heap.size w w' := by
  have HE1 := Lib.hid (fun (w1 : World) (h : Below w.heap.size w w1) => (show Calls Tryz.prog 28 #[.agg x.oe.enc.toArray, .agg y.oe.enc.toArray] w1 (fun e w' => e = .returned (.bool (evEq x.oe y.oe)) ∧ Below w1.heap.size w1 w') from evSame_calls x.oe y.oe w1 (RowsAt.later hx.1 h) (RowsAt.later hy.1 h) hf.1.2 hf'.1.2 hf.1.1))
  have HE2 := Lib.hid (fun (w1 : World) (h : Below w.heap.size w w1) => (show Calls Tryz.prog 28 #[.agg x.ne.enc.toArray, .agg y.ne.enc.toArray] w1 (fun e w' => e = .returned (.bool (evEq x.ne y.ne)) ∧ Below w1.heap.size w1 w') from evSame_calls x.ne y.ne w1 (RowsAt.later hx.2 h) (RowsAt.later hy.2 h) hf.2.2 hf'.2.2 hf.2.1))
  clear hx hy hf hf'
  have HB := Lib.hid (fun (w1 : World) (h : Below (w.heap.size + 2) ((w.alloc (.cells x.enc.toArray 54)).alloc (.cells y.enc.toArray 54)) w1) => box2_below h)
  have hb0 : Below (w.heap.size + 2) ((w.alloc (.cells x.enc.toArray 54)).alloc (.cells y.enc.toArray 54)) ((w.alloc (.cells x.enc.toArray 54)).alloc (.cells y.enc.toArray 54)) := Below.refl _ _
  have hsz : ((w.alloc (.cells x.enc.toArray 54)).alloc (.cells y.enc.toArray 54)).heap.size = w.heap.size + 2 := by simp
  have hk1 : ((w.alloc (.cells x.enc.toArray 54)).alloc (.cells y.enc.toArray 54)).heap[w.heap.size]? = some (.cells x.enc.toArray 54 (0, 0)) := by
    rw [Below.heap_alloc _ _ _ (by simp)]
    exact heap_alloc_last w _
  have hk2 : ((w.alloc (.cells x.enc.toArray 54)).alloc (.cells y.enc.toArray 54)).heap[w.heap.size + 1]? = some (.cells y.enc.toArray 54 (0, 0)) := by
    have := heap_alloc_last (w.alloc (.cells x.enc.toArray 54)) (.cells y.enc.toArray 54)
    rwa [World.size_alloc] at this
  generalize hW0 : (w.alloc (.cells x.enc.toArray 54)).alloc (.cells y.enc.toArray 54) = W0 at *
  have HW0 := Lib.hid hW0
  have HSZ := Lib.hid hsz
  have HT0 := Lib.hid (fun (w2 w3 : World) (h : Below (w.heap.size + 2) W0 w2) (h3 : Below w2.heap.size w2 w3) => (h.trans (h3.mono (by have := h.size; rw [HSZ.out] at this; exact this)) : Below (w.heap.size + 2) W0 w3))
  have bx := fun (w' : World) (h : Below (w.heap.size + 2) W0 w') => chg_row (x := x) ((h.block _ (by omega)).trans hk1)
  have by_ := fun (w' : World) (h : Below (w.heap.size + 2) W0 w') => chg_row (x := y) ((h.block _ (by omega)).trans hk2)
  have f0 := fun (w' : World) (h : Below (w.heap.size + 2) W0 w') => (bx w' h).1
  have f1 := fun (w' : World) (h : Below (w.heap.size + 2) W0 w') => (bx w' h).2.1
  have f2 := fun (w' : World) (h : Below (w.heap.size + 2) W0 w') => (bx w' h).2.2.1
  have f3 := fun (w' : World) (h : Below (w.heap.size + 2) W0 w') => (bx w' h).2.2.2.1
  have f4 := fun (w' : World) (h : Below (w.heap.size + 2) W0 w') => (bx w' h).2.2.2.2.1
  have g0 := fun (w' : World) (h : Below (w.heap.size + 2) W0 w') => (by_ w' h).1
  have g1 := fun (w' : World) (h : Below (w.heap.size + 2) W0 w') => (by_ w' h).2.1
  have g2 := fun (w' : World) (h : Below (w.heap.size + 2) W0 w') => (by_ w' h).2.2.1
  have g3 := fun (w' : World) (h : Below (w.heap.size + 2) W0 w') => (by_ w' h).2.2.2.1
  have g4 := fun (w' : World) (h : Below (w.heap.size + 2) W0 w') => (by_ w' h).2.2.2.2.1
  have X0 := Lib.hid (fun (w' : World) (h : Below (w.heap.size + 2) W0 w') => (bx w' h).2.2.2.2.2.1)
  have Y0 := Lib.hid (fun (w' : World) (h : Below (w.heap.size + 2) W0 w') => (by_ w' h).2.2.2.2.2.1)
  have X1 := Lib.hid (fun (w' : World) (h : Below (w.heap.size + 2) W0 w') => (bx w' h).2.2.2.2.2.2.1)
  have Y1 := Lib.hid (fun (w' : World) (h : Below (w.heap.size + 2) W0 w') => (by_ w' h).2.2.2.2.2.2.1)
  have X2 := Lib.hid (fun (w' : World) (h : Below (w.heap.size + 2) W0 w') => (bx w' h).2.2.2.2.2.2.2.1)
  have Y2 := Lib.hid (fun (w' : World) (h : Below (w.heap.size + 2) W0 w') => (by_ w' h).2.2.2.2.2.2.2.1)
  have X3 := Lib.hid (fun (w' : World) (h : Below (w.heap.size + 2) W0 w') => (bx w' h).2.2.2.2.2.2.2.2.1)
  have Y3 := Lib.hid (fun (w' : World) (h : Below (w.heap.size + 2) W0 w') => (by_ w' h).2.2.2.2.2.2.2.2.1)
  have X4 := Lib.hid (fun (w' : World) (h : Below (w.heap.size + 2) W0 w') => (bx w' h).2.2.2.2.2.2.2.2.2.1)
  have Y4 := Lib.hid (fun (w' : World) (h : Below (w.heap.size + 2) W0 w') => (by_ w' h).2.2.2.2.2.2.2.2.2.1)
  have X5 := Lib.hid (fun (w' : World) (h : Below (w.heap.size + 2) W0 w') => (bx w' h).2.2.2.2.2.2.2.2.2.2.1)
  have Y5 := Lib.hid (fun (w' : World) (h : Below (w.heap.size + 2) W0 w') => (by_ w' h).2.2.2.2.2.2.2.2.2.2.1)
  have X6 := Lib.hid (fun (w' : World) (h : Below (w.heap.size + 2) W0 w') => (bx w' h).2.2.2.2.2.2.2.2.2.2.2.1)
  have Y6 := Lib.hid (fun (w' : World) (h : Below (w.heap.size + 2) W0 w') => (by_ w' h).2.2.2.2.2.2.2.2.2.2.2.1)
  have X7 := Lib.hid (fun (w' : World) (h : Below (w.heap.size + 2) W0 w') => (bx w' h).2.2.2.2.2.2.2.2.2.2.2.2)
  have Y7 := Lib.hid (fun (w' : World) (h : Below (w.heap.size + 2) W0 w') => (by_ w' h).2.2.2.2.2.2.2.2.2.2.2.2)
  have e0 := fun wx => run_u8Eq x.sec y.sec wx
  have e1 := fun wx => run_i64Eq x.id y.id wx
  have e2 := fun wx => run_strEq x.name y.name wx
  have e3 := fun wx => run_boolEq x.added y.added wx
  have e4 := fun wx => run_boolEq x.gone y.gone wx
  have r1 := fun wx => run_hdEq x.oh y.oh wx
  have r2 := fun wx => run_hdEq x.nh y.nh wx
  have r3 := fun wx => run_regEq x.rg y.rg wx
  have r4 := fun wx => run_regEq x.nr y.nr wx
  have r5 := fun wx => run_cmEq x.oc y.oc wx
  have r6 := fun wx => run_cmEq x.nc y.nc wx
  have S41 := Lib.hid (fun (z : Hd) => (show (Tryz.prog.info? 41).map (·.size) = some z.enc.length from (by kernel_rfl : (Tryz.prog.info? 41).map (·.size) = some 5)))
  have S44 := Lib.hid (fun (z : Reg) => (show (Tryz.prog.info? 44).map (·.size) = some z.enc.length from (by kernel_rfl : (Tryz.prog.info? 44).map (·.size) = some 7)))
  have S50 := Lib.hid (fun (z : Ev) => (show (Tryz.prog.info? 50).map (·.size) = some z.enc.length from (by kernel_rfl : (Tryz.prog.info? 50).map (·.size) = some 7)))
  have S52 := Lib.hid (fun (z : Cm) => (show (Tryz.prog.info? 52).map (·.size) = some z.enc.length from (by kernel_rfl : (Tryz.prog.info? 52).map (·.size) = some 8)))
  clear hW0 hsz hk1 hk2 bx by_
  unfold chgEq
  generalize x.enc.toArray = ds at *
  generalize y.enc.toArray = qs at *
  obtain ⟨sec, id, name, ad, gn, oh, nh, rg, nr, oe, ne, oc, nc⟩ := x
  obtain ⟨sec', id', name', ad', gn', oh', nh', rg', nr', oe', ne', oc', nc'⟩ := y
  simp only [] at *
  generalize hE0 : (sec == sec') = E0 at *
  generalize hE1 : (id == id') = E1 at *
  generalize hE2 : (name.toList == name'.toList) = E2 at *
  generalize hE3 : (ad == ad') = E3 at *
  generalize hE4 : (gn == gn') = E4 at *
  generalize hdEq oh oh' = R5 at *
  generalize hdEq nh nh' = R6 at *
  generalize regEq rg rg' = R7 at *
  generalize regEq nr nr' = R8 at *
  generalize evEq oe oe' = R9 at *
  generalize evEq ne ne' = R10 at *
  generalize cmEq oc oc' = R11 at *
  generalize cmEq nc nc' = R12 at *
  have LX0 := Lib.hid (S41.out oh)
  have LY0 := Lib.hid (S41.out oh')
  have LX1 := Lib.hid (S41.out nh)
  have LY1 := Lib.hid (S41.out nh')
  have LX2 := Lib.hid (S44.out rg)
  have LY2 := Lib.hid (S44.out rg')
  have LX3 := Lib.hid (S44.out nr)
  have LY3 := Lib.hid (S44.out nr')
  have LX4 := Lib.hid (S50.out oe)
  have LY4 := Lib.hid (S50.out oe')
  have LX5 := Lib.hid (S50.out ne)
  have LY5 := Lib.hid (S50.out ne')
  have LX6 := Lib.hid (S52.out oc)
  have LY6 := Lib.hid (S52.out oc')
  have LX7 := Lib.hid (S52.out nc)
  have LY7 := Lib.hid (S52.out nc')
  clear S41 S44 S50 S52
  generalize oh.enc = OH at *
  generalize oh'.enc = OH' at *
  generalize nh.enc = NH at *
  generalize nh'.enc = NH' at *
  generalize rg.enc = RG at *
  generalize rg'.enc = RG' at *
  generalize nr.enc = NR at *
  generalize nr'.enc = NR' at *
  generalize oe.enc = OE at *
  generalize oe'.enc = OE' at *
  generalize ne.enc = NE at *
  generalize ne'.enc = NE' at *
  generalize oc.enc = OC at *
  generalize oc'.enc = OC' at *
  generalize nc.enc = NC at *
  generalize nc'.enc = NC' at *
  generalize hQ : (fun (e : Ending) (w' : World) => e = .returned (.bool (E0 && (E1 && (E2 && (E3 && (E4 && (R5 && (R6 && (R7 && (R8 && (R9 && (R10 && (R11 && R12))))))))))))) ∧ Below w.heap.size w w') = Q
  have HQ := Lib.hid (fun (r : Bool) (hr : r = (E0 && (E1 && (E2 && (E3 && (E4 && (R5 && (R6 && (R7 && (R8 && (R9 && (R10 && (R11 && R12))))))))))))) w' (hb : Below w.heap.size w w') => show Q (.returned (.bool r)) w' from hQ ▸ ⟨by rw [hr], hb⟩)
  clear hQ
  go_enter Tryz.func72, Tryz.ntmps72
  go_upto_region 1 with fail
  rw [HW0.out]
  rename_i K1 hK1
  have HK1 := Lib.hid hK1
  clear hK1
  have END := Lib.hid (show ∀ (a' : Act) (w' : World) (r : Bool), a'.tmps.size = 94 → a'.defers = [] → a'.tmps[4]? = some (.bool r) → r = (E0 && (E1 && (E2 && (E3 && (E4 && (R5 && (R6 && (R7 && (R8 && (R9 && (R10 && (R11 && R12)))))))))))) → Below w.heap.size w w' → K1 a' w' from by
    rintro ⟨tm, df⟩ w_ r h1 h2 h3 hr hb
    simp only at h1 h2 h3
    subst h2
    refine HK1.out _ _ ?_
    go_wp2_with fail
    rw [show tm.getD 4 undef = .bool r from by rw [Array.getD_eq_getD_getElem?, h3]; rfl]
    exact HQ.out r hr w_ hb)
  refine wp_region_lit ?_
  refine wpList_val (v := .pointer (some ⟨w.heap.size, 0, none⟩)) rfl (by go_simp) ?_
  try simp only [Act.put, List.setIfInBounds_toArray, List.set_cons_zero, List.set_cons_succ]
  refine wpList_val (v := .int .u8 sec) rfl (by go_simp) ?_
  try simp only [Act.put, List.setIfInBounds_toArray, List.set_cons_zero, List.set_cons_succ]
  refine wpList_val (v := .pointer (some ⟨w.heap.size + 1, 0, none⟩)) rfl (by go_simp) ?_
  try simp only [Act.put, List.setIfInBounds_toArray, List.set_cons_zero, List.set_cons_succ]
  refine wpList_val (v := .int .u8 sec') rfl (by go_simp) ?_
  try simp only [Act.put, List.setIfInBounds_toArray, List.set_cons_zero, List.set_cons_succ]
  refine wpList_val (v := .bool E0) rfl (by go_simp) ?_
  try simp only [Act.put, List.setIfInBounds_toArray, List.set_cons_zero, List.set_cons_succ]
  refine wpList_val (v := .bool E0) rfl (by go_simp) ?_
  try simp only [Act.put, List.setIfInBounds_toArray, List.set_cons_zero, List.set_cons_succ]
  cases E0 with
  | false =>
    refine falseTail_at 94 4 [10] (by kernel_rfl) rfl (fun s_ hs_ => by rw [List.mem_singleton.1 hs_]; rfl) (fun a' h1 h2 h3 => ?_)
    exact END.out a' _ false h1 h2 h3 (by simp) (HB.out _ hb0)
  | true =>
    refine wpList_val (v := .pointer (some ⟨w.heap.size, 1, none⟩)) rfl (by go_simp) ?_
    try simp only [Act.put, List.setIfInBounds_toArray, List.set_cons_zero, List.set_cons_succ]
    refine wpList_val (v := .int .i64 id) rfl (by go_simp) ?_
    try simp only [Act.put, List.setIfInBounds_toArray, List.set_cons_zero, List.set_cons_succ]
    refine wpList_val (v := .pointer (some ⟨w.heap.size + 1, 1, none⟩)) rfl (by go_simp) ?_
    try simp only [Act.put, List.setIfInBounds_toArray, List.set_cons_zero, List.set_cons_succ]
    refine wpList_val (v := .int .i64 id') rfl (by go_simp) ?_
    try simp only [Act.put, List.setIfInBounds_toArray, List.set_cons_zero, List.set_cons_succ]
    refine wpList_val (v := .bool E1) rfl (by go_simp) ?_
    try simp only [Act.put, List.setIfInBounds_toArray, List.set_cons_zero, List.set_cons_succ]
    refine wpList_val (v := .bool E1) rfl (by go_simp) ?_
    try simp only [Act.put, List.setIfInBounds_toArray, List.set_cons_zero, List.set_cons_succ]
    refine wpList_val (v := .bool E1) rfl (by go_simp) ?_
    try simp only [Act.put, List.setIfInBounds_toArray, List.set_cons_zero, List.set_cons_succ]
    cases E1 with
    | false =>
      refine falseTail_at 94 4 [17] (by kernel_rfl) rfl (fun s_ hs_ => by rw [List.mem_singleton.1 hs_]; rfl) (fun a' h1 h2 h3 => ?_)
      exact END.out a' _ false h1 h2 h3 (by simp) (HB.out _ hb0)
    | true =>
      refine wpList_val (v := .pointer (some ⟨w.heap.size, 2, none⟩)) rfl (by go_simp) ?_
      try simp only [Act.put, List.setIfInBounds_toArray, List.set_cons_zero, List.set_cons_succ]
      refine wpList_val (v := .string name) rfl (by go_simp) ?_
      try simp only [Act.put, List.setIfInBounds_toArray, List.set_cons_zero, List.set_cons_succ]
      refine wpList_val (v := .pointer (some ⟨w.heap.size + 1, 2, none⟩)) rfl (by go_simp) ?_
      try simp only [Act.put, List.setIfInBounds_toArray, List.set_cons_zero, List.set_cons_succ]
      refine wpList_val (v := .string name') rfl (by go_simp) ?_
      try simp only [Act.put, List.setIfInBounds_toArray, List.set_cons_zero, List.set_cons_succ]
      refine wpList_val (v := .bool E2) rfl (by go_simp) ?_
      try simp only [Act.put, List.setIfInBounds_toArray, List.set_cons_zero, List.set_cons_succ]
      refine wpList_val (v := .bool E2) rfl (by go_simp) ?_
      try simp only [Act.put, List.setIfInBounds_toArray, List.set_cons_zero, List.set_cons_succ]
      refine wpList_val (v := .bool E2) rfl (by go_simp) ?_
      try simp only [Act.put, List.setIfInBounds_toArray, List.set_cons_zero, List.set_cons_succ]
      cases E2 with
      | false =>
        refine falseTail_at 94 4 [24] (by kernel_rfl) rfl (fun s_ hs_ => by rw [List.mem_singleton.1 hs_]; rfl) (fun a' h1 h2 h3 => ?_)
        exact END.out a' _ false h1 h2 h3 (by simp) (HB.out _ hb0)
      | true =>
        refine wpList_val (v := .pointer (some ⟨w.heap.size, 3, none⟩)) rfl (by go_simp) ?_
        try simp only [Act.put, List.setIfInBounds_toArray, List.set_cons_zero, List.set_cons_succ]
        refine wpList_val (v := .bool ad) rfl (by go_simp) ?_
        try simp only [Act.put, List.setIfInBounds_toArray, List.set_cons_zero, List.set_cons_succ]
        refine wpList_val (v := .pointer (some ⟨w.heap.size + 1, 3, none⟩)) rfl (by go_simp) ?_
        try simp only [Act.put, List.setIfInBounds_toArray, List.set_cons_zero, List.set_cons_succ]
        refine wpList_val (v := .bool ad') rfl (by go_simp) ?_
        try simp only [Act.put, List.setIfInBounds_toArray, List.set_cons_zero, List.set_cons_succ]
        refine wpList_val (v := .bool E3) rfl (by go_simp) ?_
        try simp only [Act.put, List.setIfInBounds_toArray, List.set_cons_zero, List.set_cons_succ]
        refine wpList_val (v := .bool E3) rfl (by go_simp) ?_
        try simp only [Act.put, List.setIfInBounds_toArray, List.set_cons_zero, List.set_cons_succ]
        refine wpList_val (v := .bool E3) rfl (by go_simp) ?_
        try simp only [Act.put, List.setIfInBounds_toArray, List.set_cons_zero, List.set_cons_succ]
        cases E3 with
        | false =>
          refine falseTail_at 94 4 [31] (by kernel_rfl) rfl (fun s_ hs_ => by rw [List.mem_singleton.1 hs_]; rfl) (fun a' h1 h2 h3 => ?_)
          exact END.out a' _ false h1 h2 h3 (by simp) (HB.out _ hb0)
        | true =>
          refine wpList_val (v := .pointer (some ⟨w.heap.size, 4, none⟩)) rfl (by go_simp) ?_
          try simp only [Act.put, List.setIfInBounds_toArray, List.set_cons_zero, List.set_cons_succ]
          refine wpList_val (v := .bool gn) rfl (by go_simp) ?_
          try simp only [Act.put, List.setIfInBounds_toArray, List.set_cons_zero, List.set_cons_succ]
          refine wpList_val (v := .pointer (some ⟨w.heap.size + 1, 4, none⟩)) rfl (by go_simp) ?_
          try simp only [Act.put, List.setIfInBounds_toArray, List.set_cons_zero, List.set_cons_succ]
          refine wpList_val (v := .bool gn') rfl (by go_simp) ?_
          try simp only [Act.put, List.setIfInBounds_toArray, List.set_cons_zero, List.set_cons_succ]
          refine wpList_val (v := .bool E4) rfl (by go_simp) ?_
          try simp only [Act.put, List.setIfInBounds_toArray, List.set_cons_zero, List.set_cons_succ]
          refine wpList_val (v := .bool E4) rfl (by go_simp) ?_
          try simp only [Act.put, List.setIfInBounds_toArray, List.set_cons_zero, List.set_cons_succ]
          refine wpList_val (v := .bool E4) rfl (by go_simp) ?_
          try simp only [Act.put, List.setIfInBounds_toArray, List.set_cons_zero, List.set_cons_succ]
          cases E4 with
          | false =>
            refine falseTail_at 94 4 [38] (by kernel_rfl) rfl (fun s_ hs_ => by rw [List.mem_singleton.1 hs_]; rfl) (fun a' h1 h2 h3 => ?_)
            exact END.out a' _ false h1 h2 h3 (by simp) (HB.out _ hb0)
          | true =>
            refine wpList_val (v := .pointer (some ⟨w.heap.size, 5, none⟩)) rfl (by go_simp) ?_
            try simp only [Act.put, List.setIfInBounds_toArray, List.set_cons_zero, List.set_cons_succ]
            refine wpList_load_want 41 (.tmp 39) rfl rfl w.heap.size 5 rfl OH _ (X0.out _ hb0) Tryz.underlying41 rfl LX0.out ?_
            try simp only [Act.put, List.setIfInBounds_toArray, List.set_cons_zero, List.set_cons_succ]
            refine wpList_val (v := .pointer (some ⟨w.heap.size + 1, 5, none⟩)) rfl (by go_simp) ?_
            try simp only [Act.put, List.setIfInBounds_toArray, List.set_cons_zero, List.set_cons_succ]
            refine wpList_load_want 41 (.tmp 41) rfl rfl (w.heap.size + 1) 5 rfl OH' _ (Y0.out _ hb0) Tryz.underlying41 rfl LY0.out ?_
            try simp only [Act.put, List.setIfInBounds_toArray, List.set_cons_zero, List.set_cons_succ]
            refine wpList_val (v := .bool R5) rfl (by go_simp) ?_
            try simp only [Act.put, List.setIfInBounds_toArray, List.set_cons_zero, List.set_cons_succ]
            refine wpList_val (v := .bool R5) rfl (by go_simp) ?_
            try simp only [Act.put, List.setIfInBounds_toArray, List.set_cons_zero, List.set_cons_succ]
            refine wpList_val (v := .bool R5) rfl (by go_simp) ?_
            try simp only [Act.put, List.setIfInBounds_toArray, List.set_cons_zero, List.set_cons_succ]
            cases R5 with
            | false =>
              refine falseTail_at 94 4 [45] (by kernel_rfl) rfl (fun s_ hs_ => by rw [List.mem_singleton.1 hs_]; rfl) (fun a' h1 h2 h3 => ?_)
              exact END.out a' _ false h1 h2 h3 (by simp) (HB.out _ hb0)
            | true =>
              refine wpList_val (v := .pointer (some ⟨w.heap.size, 10, none⟩)) rfl (by go_simp) ?_
              try simp only [Act.put, List.setIfInBounds_toArray, List.set_cons_zero, List.set_cons_succ]
              refine wpList_load_want 41 (.tmp 46) rfl rfl w.heap.size 10 rfl NH _ (X1.out _ hb0) Tryz.underlying41 rfl LX1.out ?_
              try simp only [Act.put, List.setIfInBounds_toArray, List.set_cons_zero, List.set_cons_succ]
              refine wpList_val (v := .pointer (some ⟨w.heap.size + 1, 10, none⟩)) rfl (by go_simp) ?_
              try simp only [Act.put, List.setIfInBounds_toArray, List.set_cons_zero, List.set_cons_succ]
              refine wpList_load_want 41 (.tmp 48) rfl rfl (w.heap.size + 1) 10 rfl NH' _ (Y1.out _ hb0) Tryz.underlying41 rfl LY1.out ?_
              try simp only [Act.put, List.setIfInBounds_toArray, List.set_cons_zero, List.set_cons_succ]
              refine wpList_val (v := .bool R6) rfl (by go_simp) ?_
              try simp only [Act.put, List.setIfInBounds_toArray, List.set_cons_zero, List.set_cons_succ]
              refine wpList_val (v := .bool R6) rfl (by go_simp) ?_
              try simp only [Act.put, List.setIfInBounds_toArray, List.set_cons_zero, List.set_cons_succ]
              refine wpList_val (v := .bool R6) rfl (by go_simp) ?_
              try simp only [Act.put, List.setIfInBounds_toArray, List.set_cons_zero, List.set_cons_succ]
              cases R6 with
              | false =>
                refine falseTail_at 94 4 [52] (by kernel_rfl) rfl (fun s_ hs_ => by rw [List.mem_singleton.1 hs_]; rfl) (fun a' h1 h2 h3 => ?_)
                exact END.out a' _ false h1 h2 h3 (by simp) (HB.out _ hb0)
              | true =>
                refine wpList_val (v := .pointer (some ⟨w.heap.size, 15, none⟩)) rfl (by go_simp) ?_
                try simp only [Act.put, List.setIfInBounds_toArray, List.set_cons_zero, List.set_cons_succ]
                refine wpList_load_want 44 (.tmp 53) rfl rfl w.heap.size 15 rfl RG _ (X2.out _ hb0) Tryz.underlying44 rfl LX2.out ?_
                try simp only [Act.put, List.setIfInBounds_toArray, List.set_cons_zero, List.set_cons_succ]
                refine wpList_val (v := .pointer (some ⟨w.heap.size + 1, 15, none⟩)) rfl (by go_simp) ?_
                try simp only [Act.put, List.setIfInBounds_toArray, List.set_cons_zero, List.set_cons_succ]
                refine wpList_load_want 44 (.tmp 55) rfl rfl (w.heap.size + 1) 15 rfl RG' _ (Y2.out _ hb0) Tryz.underlying44 rfl LY2.out ?_
                try simp only [Act.put, List.setIfInBounds_toArray, List.set_cons_zero, List.set_cons_succ]
                refine wpList_val (v := .bool R7) rfl (by go_simp) ?_
                try simp only [Act.put, List.setIfInBounds_toArray, List.set_cons_zero, List.set_cons_succ]
                refine wpList_val (v := .bool R7) rfl (by go_simp) ?_
                try simp only [Act.put, List.setIfInBounds_toArray, List.set_cons_zero, List.set_cons_succ]
                refine wpList_val (v := .bool R7) rfl (by go_simp) ?_
                try simp only [Act.put, List.setIfInBounds_toArray, List.set_cons_zero, List.set_cons_succ]
                cases R7 with
                | false =>
                  refine falseTail_at 94 4 [59] (by kernel_rfl) rfl (fun s_ hs_ => by rw [List.mem_singleton.1 hs_]; rfl) (fun a' h1 h2 h3 => ?_)
                  exact END.out a' _ false h1 h2 h3 (by simp) (HB.out _ hb0)
                | true =>
                  refine wpList_val (v := .pointer (some ⟨w.heap.size, 22, none⟩)) rfl (by go_simp) ?_
                  try simp only [Act.put, List.setIfInBounds_toArray, List.set_cons_zero, List.set_cons_succ]
                  refine wpList_load_want 44 (.tmp 60) rfl rfl w.heap.size 22 rfl NR _ (X3.out _ hb0) Tryz.underlying44 rfl LX3.out ?_
                  try simp only [Act.put, List.setIfInBounds_toArray, List.set_cons_zero, List.set_cons_succ]
                  refine wpList_val (v := .pointer (some ⟨w.heap.size + 1, 22, none⟩)) rfl (by go_simp) ?_
                  try simp only [Act.put, List.setIfInBounds_toArray, List.set_cons_zero, List.set_cons_succ]
                  refine wpList_load_want 44 (.tmp 62) rfl rfl (w.heap.size + 1) 22 rfl NR' _ (Y3.out _ hb0) Tryz.underlying44 rfl LY3.out ?_
                  try simp only [Act.put, List.setIfInBounds_toArray, List.set_cons_zero, List.set_cons_succ]
                  refine wpList_val (v := .bool R8) rfl (by go_simp) ?_
                  try simp only [Act.put, List.setIfInBounds_toArray, List.set_cons_zero, List.set_cons_succ]
                  refine wpList_val (v := .bool R8) rfl (by go_simp) ?_
                  try simp only [Act.put, List.setIfInBounds_toArray, List.set_cons_zero, List.set_cons_succ]
                  refine wpList_val (v := .bool R8) rfl (by go_simp) ?_
                  try simp only [Act.put, List.setIfInBounds_toArray, List.set_cons_zero, List.set_cons_succ]
                  cases R8 with
                  | false =>
                    refine falseTail_at 94 4 [66] (by kernel_rfl) rfl (fun s_ hs_ => by rw [List.mem_singleton.1 hs_]; rfl) (fun a' h1 h2 h3 => ?_)
                    exact END.out a' _ false h1 h2 h3 (by simp) (HB.out _ hb0)
                  | true =>
                    refine wpList_val (v := .pointer (some ⟨w.heap.size, 29, none⟩)) rfl (by go_simp) ?_
                    try simp only [Act.put, List.setIfInBounds_toArray, List.set_cons_zero, List.set_cons_succ]
                    refine wpList_load_want 50 (.tmp 67) rfl rfl w.heap.size 29 rfl OE _ (X4.out _ hb0) Tryz.underlying50 rfl LX4.out ?_
                    try simp only [Act.put, List.setIfInBounds_toArray, List.set_cons_zero, List.set_cons_succ]
                    refine wpList_val (v := .pointer (some ⟨w.heap.size + 1, 29, none⟩)) rfl (by go_simp) ?_
                    try simp only [Act.put, List.setIfInBounds_toArray, List.set_cons_zero, List.set_cons_succ]
                    refine wpList_load_want 50 (.tmp 69) rfl rfl (w.heap.size + 1) 29 rfl OE' _ (Y4.out _ hb0) Tryz.underlying50 rfl LY4.out ?_
                    try simp only [Act.put, List.setIfInBounds_toArray, List.set_cons_zero, List.set_cons_succ]
                    refine BigFrame.wpList_want rfl (fun K hK => ?_)
                    have HKK := Lib.hid hK
                    clear hK
                    go_simp
                    refine (HE1.out _ (HB.out _ hb0)).mono ?_
                    rintro e w1 ⟨rfl, hb1⟩
                    have hc1 := HT0.out _ _ hb0 hb1
                    clear hb1 HE1
                    refine HKK.out _ _ ?_
                    clear HKK
                    try simp only [Act.put, List.setIfInBounds_toArray, List.set_cons_zero, List.set_cons_succ]
                    refine wpList_val (v := .bool R9) rfl (by go_simp) ?_
                    try simp only [Act.put, List.setIfInBounds_toArray, List.set_cons_zero, List.set_cons_succ]
                    refine wpList_val (v := .bool R9) rfl (by go_simp) ?_
                    try simp only [Act.put, List.setIfInBounds_toArray, List.set_cons_zero, List.set_cons_succ]
                    cases R9 with
                    | false =>
                      refine falseTail_at 94 4 [73] (by kernel_rfl) rfl (fun s_ hs_ => by rw [List.mem_singleton.1 hs_]; rfl) (fun a' h1 h2 h3 => ?_)
                      exact END.out a' _ false h1 h2 h3 (by simp) (HB.out _ hc1)
                    | true =>
                      refine wpList_val (v := .pointer (some ⟨w.heap.size, 36, none⟩)) rfl (by go_simp) ?_
                      try simp only [Act.put, List.setIfInBounds_toArray, List.set_cons_zero, List.set_cons_succ]
                      refine wpList_load_want 50 (.tmp 74) rfl rfl w.heap.size 36 rfl NE _ (X5.out _ hc1) Tryz.underlying50 rfl LX5.out ?_
                      try simp only [Act.put, List.setIfInBounds_toArray, List.set_cons_zero, List.set_cons_succ]
                      refine wpList_val (v := .pointer (some ⟨w.heap.size + 1, 36, none⟩)) rfl (by go_simp) ?_
                      try simp only [Act.put, List.setIfInBounds_toArray, List.set_cons_zero, List.set_cons_succ]
                      refine wpList_load_want 50 (.tmp 76) rfl rfl (w.heap.size + 1) 36 rfl NE' _ (Y5.out _ hc1) Tryz.underlying50 rfl LY5.out ?_
                      try simp only [Act.put, List.setIfInBounds_toArray, List.set_cons_zero, List.set_cons_succ]
                      refine BigFrame.wpList_want rfl (fun K hK => ?_)
                      have HKK := Lib.hid hK
                      clear hK
                      go_simp
                      refine (HE2.out _ (HB.out _ hc1)).mono ?_
                      rintro e w2 ⟨rfl, hb2⟩
                      have hc2 := HT0.out _ _ hc1 hb2
                      clear hb2 HE2
                      refine HKK.out _ _ ?_
                      clear HKK
                      try simp only [Act.put, List.setIfInBounds_toArray, List.set_cons_zero, List.set_cons_succ]
                      refine wpList_val (v := .bool R10) rfl (by go_simp) ?_
                      try simp only [Act.put, List.setIfInBounds_toArray, List.set_cons_zero, List.set_cons_succ]
                      refine wpList_val (v := .bool R10) rfl (by go_simp) ?_
                      try simp only [Act.put, List.setIfInBounds_toArray, List.set_cons_zero, List.set_cons_succ]
                      cases R10 with
                      | false =>
                        refine falseTail_at 94 4 [80] (by kernel_rfl) rfl (fun s_ hs_ => by rw [List.mem_singleton.1 hs_]; rfl) (fun a' h1 h2 h3 => ?_)
                        exact END.out a' _ false h1 h2 h3 (by simp) (HB.out _ hc2)
                      | true =>
                        refine wpList_val (v := .pointer (some ⟨w.heap.size, 43, none⟩)) rfl (by go_simp) ?_
                        try simp only [Act.put, List.setIfInBounds_toArray, List.set_cons_zero, List.set_cons_succ]
                        refine wpList_load_want 52 (.tmp 81) rfl rfl w.heap.size 43 rfl OC _ (X6.out _ hc2) Tryz.underlying52 rfl LX6.out ?_
                        try simp only [Act.put, List.setIfInBounds_toArray, List.set_cons_zero, List.set_cons_succ]
                        refine wpList_val (v := .pointer (some ⟨w.heap.size + 1, 43, none⟩)) rfl (by go_simp) ?_
                        try simp only [Act.put, List.setIfInBounds_toArray, List.set_cons_zero, List.set_cons_succ]
                        refine wpList_load_want 52 (.tmp 83) rfl rfl (w.heap.size + 1) 43 rfl OC' _ (Y6.out _ hc2) Tryz.underlying52 rfl LY6.out ?_
                        try simp only [Act.put, List.setIfInBounds_toArray, List.set_cons_zero, List.set_cons_succ]
                        refine wpList_val (v := .bool R11) rfl (by go_simp) ?_
                        try simp only [Act.put, List.setIfInBounds_toArray, List.set_cons_zero, List.set_cons_succ]
                        refine wpList_val (v := .bool R11) rfl (by go_simp) ?_
                        try simp only [Act.put, List.setIfInBounds_toArray, List.set_cons_zero, List.set_cons_succ]
                        refine wpList_val (v := .bool R11) rfl (by go_simp) ?_
                        try simp only [Act.put, List.setIfInBounds_toArray, List.set_cons_zero, List.set_cons_succ]
                        cases R11 with
                        | false =>
                          refine falseTail_at 94 4 [87] (by kernel_rfl) rfl (fun s_ hs_ => by rw [List.mem_singleton.1 hs_]; rfl) (fun a' h1 h2 h3 => ?_)
                          exact END.out a' _ false h1 h2 h3 (by simp) (HB.out _ hc2)
                        | true =>
                          refine wpList_val (v := .pointer (some ⟨w.heap.size, 51, none⟩)) rfl (by go_simp) ?_
                          try simp only [Act.put, List.setIfInBounds_toArray, List.set_cons_zero, List.set_cons_succ]
                          refine wpList_load_want 52 (.tmp 88) rfl rfl w.heap.size 51 rfl NC _ (X7.out _ hc2) Tryz.underlying52 rfl LX7.out ?_
                          try simp only [Act.put, List.setIfInBounds_toArray, List.set_cons_zero, List.set_cons_succ]
                          refine wpList_val (v := .pointer (some ⟨w.heap.size + 1, 51, none⟩)) rfl (by go_simp) ?_
                          try simp only [Act.put, List.setIfInBounds_toArray, List.set_cons_zero, List.set_cons_succ]
                          refine wpList_load_want 52 (.tmp 90) rfl rfl (w.heap.size + 1) 51 rfl NC' _ (Y7.out _ hc2) Tryz.underlying52 rfl LY7.out ?_
                          try simp only [Act.put, List.setIfInBounds_toArray, List.set_cons_zero, List.set_cons_succ]
                          refine wpList_val (v := .bool R12) rfl (by go_simp) ?_
                          try simp only [Act.put, List.setIfInBounds_toArray, List.set_cons_zero, List.set_cons_succ]
                          refine wpList_val (v := .bool R12) rfl (by go_simp) ?_
                          try simp only [Act.put, List.setIfInBounds_toArray, List.set_cons_zero, List.set_cons_succ]
                          refine wpList_val (v := .bool R12) rfl (by go_simp) ?_
                          try simp only [Act.put, List.setIfInBounds_toArray, List.set_cons_zero, List.set_cons_succ]
                          exact END.out _ _ _ rfl rfl rfl (by simp) (HB.out _ hc2)
end Go.Proofs.YtnlnmbcaongehaaGreatDoor
