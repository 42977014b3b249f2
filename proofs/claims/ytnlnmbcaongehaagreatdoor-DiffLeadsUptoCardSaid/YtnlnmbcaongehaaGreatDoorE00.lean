/- Changes: their cells, what lies behind them, and the changes that lead from one document to another. The contract of the reference's Check of documents: the same specification as the program's. The contract of the reference's Diff. (printed by gen_refdiff.py) slices.Delete at regions, events and comments: one element of an own row is taken out. (printed by gen_delete.py) slices.Insert of one element at regions, events and comments. (printed by gen_insert.py) The contract of diff.changed at regions, events, comments. (printed by gen_changed.py) -/
import Derived.Deep.RegionLaw
import Derived.Lib.SliceRun
import Derived.Lib.SlBuf
import Derived.Lib.ReflectliteSwap
import Derived.Shelf.Spec.SlicesInsertGrow
import Derived.Deep.RegionHeld3
import Derived.Deep.DeepCutAuto
import Derived.Deep.CutBlock
import Derived.Deep.DrawnRows
import Derived.Test.YtnlnmbcaongehaaGreatDoorBase06
import Derived.Test.YtnlnmbcaongehaaGreatDoorBase05
import Derived.Test.YtnlnmbcaongehaaGreatDoorBase04
import Derived.Test.YtnlnmbcaongehaaGreatDoorBase02
import Derived.Test.YtnlnmbcaongehaaGreatDoorBase01
import Derived.Test.YtnlnmbcaongehaaGreatDoorBase00
import Derived.Test.YtnlnmbcaongehaaGreatDoorBase03
import Derived.Test.YtnlnmbcaongehaaGreatDoorBase09
import Derived.Test.YtnlnmbcaongehaaGreatDoorBase07
import Derived.Test.YtnlnmbcaongehaaGreatDoorBase08
import Derived.Test.YtnlnmbcaongehaaGreatDoorBase10
import Derived.Test.YtnlnmbcaongehaaGreatDoorBase11
import Derived.Test.YtnlnmbcaongehaaGreatDoorBase12
set_option linter.unusedVariables false
set_option linter.unusedSimpArgs false
namespace Go.Proofs.YtnlnmbcaongehaaGreatDoor
open Go.RowKit
theorem run_cmEq (a b : Cm) (w : World) : (binOp .eql 52 (.agg a.enc.toArray) (.agg b.enc.toArray)).run Tryz.prog w = .ok (.bool (cmEq a b)) w := by
  simp [go_sem, Cm.enc, cmEq]
  repeat' split
  all_goals simp_all
end Go.Proofs.YtnlnmbcaongehaaGreatDoor
namespace Go.Proofs.YtnlnmbcaongehaaGreatDoor
open Go.RowKit
theorem seen_hit (evs : List Ev) : ∀ k y j x, j < k → evs[j]? = some x → x.id = y → (seenEv evs k y).isSome = true
  | 0, y, j, x, h, _, _ => by omega
  | k + 1, y, j, x, h, hx, hy => by
    simp only [seenEv]
    by_cases hj : j = k
    · subst hj
      rw [hx]
      simp [hy]
    · split
      · exact seen_hit evs k y j x (by omega) hx hy
      · split
        · rfl
        · exact seen_hit evs k y j x (by omega) hx hy
end Go.Proofs.YtnlnmbcaongehaaGreatDoor
namespace Go.Proofs.YtnlnmbcaongehaaGreatDoor
open Go.RowKit
attribute [local go_sem ↓] Go.wp_at_zero Go.wp_at_succ
theorem allEq_map {α β : Type} (f : β → β → Bool) (g : α → β) : ∀ xs ys : List α, Lib.allEq (fun x y => f (g x) (g y)) xs ys = Lib.allEq f (xs.map g) (ys.map g)
  | [], [] => rfl
  | [], _ :: _ => rfl
  | _ :: _, [] => rfl
  | x :: xs, y :: ys => by simp only [Lib.allEq, List.map_cons, allEq_map f g xs ys]
def evCEq (x y : EvC) : Bool := x.id == y.id && (x.inn == y.inn && x.out == y.out) && x.region.toList == y.region.toList && x.kind == y.kind && x.speaker.toList == y.speaker.toList && Lib.allEq (Lib.allEq runEq) x.rows y.rows
theorem evEq_ev (x y : Ev) : evEq x y = evCEq x.c y.c := by
  unfold evEq evCEq rowsEq
  rw [show Lib.allEq rowEq x.rows y.rows = Lib.allEq (Lib.allEq runEq) (x.rows.map Row.runs) (y.rows.map Row.runs) from allEq_map (Lib.allEq runEq) Row.runs x.rows y.rows]
  rfl
end Go.Proofs.YtnlnmbcaongehaaGreatDoor
namespace Go.Proofs.YtnlnmbcaongehaaGreatDoor
open Go.RowKit
/-- clear of one element. -/
theorem run_clearCm (w : World) (g o c : Nat) (ty : TypeId) (hc : ∀ j, j < 8 → (w.cell? ⟨g, o + j, none⟩).isSome = true) (hf : ∀ j, j < 8 → w.frozen? ⟨g, o + j, none⟩ = false) :
    (Builtin.clear_ #[25] ty #[.slice (some ⟨g, o, none⟩) 1 c]).run Tryz.prog w = .ok (.tuple #[]) (w.setCells g o [.int .i64 0, .int .i64 0, .int .i64 0, .int .i64 0, .string ⟨#[]⟩, .string ⟨#[]⟩, .bool false, .bool false]) := by
  have hz : (zeroValue 52).run Tryz.prog w = .ok (.agg #[.int .i64 0, .int .i64 0, .int .i64 0, .int .i64 0, .string ⟨#[]⟩, .string ⟨#[]⟩, .bool false, .bool false]) w := by kernel_rfl
  have hst := run_storeCells_cells (P := Tryz.prog) g o [.int .i64 0, .int .i64 0, .int .i64 0, .int .i64 0, .string ⟨#[]⟩, .string ⟨#[]⟩, .bool false, .bool false] 0 w (by simpa using hc) (by simpa using hf) (by intro v hv; simp at hv; rcases hv with rfl | rfl | rfl | rfl | rfl | rfl | rfl | rfl <;> rfl)
  have hzc : (Builtin.zeroCells (Value.agg #[.int .i64 0, .int .i64 0, .int .i64 0, .int .i64 0, .string ⟨#[]⟩, .string ⟨#[]⟩, .bool false, .bool false]).cells 1).toList = [.int .i64 0, .int .i64 0, .int .i64 0, .int .i64 0, .string ⟨#[]⟩, .string ⟨#[]⟩, .bool false, .bool false] := by kernel_rfl
  simp only [Nat.add_zero] at hst
  simp [Builtin.clear_, run_underlying Tryz.underlying25, hz, hzc, hst]
set_option maxRecDepth 100000 in
set_option maxHeartbeats 4000000 in
theorem deleteCm_calls (base g cap k : Nat) (xs : List Cm) (w : World) (h : w.ownsRow base 52 8 (.slice (some ⟨g, 0, none⟩) xs.length cap) xs.length (xs.flatMap Cm.enc)) (hk : k < xs.length) (hl : xs.length ≤ 4000000) :
    Calls Tryz.prog 189 #[.slice (some ⟨g, 0, none⟩) xs.length cap, .int .i64 k, .int .i64 ((k : Int) + 1)] w fun e w' => e = .returned (.slice (some ⟨g, 0, none⟩) (xs.length - 1) cap) ∧ SliceOf 8 Cm.enc Flat w' (some ⟨g, 0, none⟩) (dropAt xs k) ∧ Below base w w' := by
  have hcap : xs.length ≤ cap ∧ cap ≤ maxLen := by
    rcases h.2 with ⟨h', _⟩ | ⟨g', cap', cur, h', _, hg, h1, h2, h3, _⟩
    · simp at h'
    · simp only [Value.slice.injEq, Option.some.injEq, Addr.mk.injEq, and_true, true_and] at h'
      obtain ⟨rfl, rfl⟩ := h'
      exact ⟨h1, h2⟩
  have hm : cap ≤ 9223372036854775807 := by have := hcap.2; simp only [maxLen] at this; omega
  have hc1 := hcap.1
  obtain ⟨j0, hj, hy0, hy1, hy2⟩ := info_parts Tryz.info52
  have hlen := flat_len Cm.enc 8 (fun _ => rfl) (xs.drop (k + 1))
  rw [List.length_drop] at hlen
  have hcell : ∀ t, t < xs.length * 8 → (w.cell? ⟨g, t, none⟩).isSome = true := fun t ht => by
    rw [h.cellAt t ht, List.getElem?_eq_getElem (by rw [h.1]; omega)]; rfl
  have hsrc : ∀ t u, ((xs.drop (k + 1)).flatMap Cm.enc)[t]? = some u → w.cell? ⟨g, (k + 1) * 8 + t, none⟩ = some u := fun t u hu => by
    have ht := (List.getElem?_eq_some_iff.1 hu).1
    rw [h.cellAt ((k + 1) * 8 + t) (by omega)]
    have e : xs.flatMap Cm.enc = (xs.take (k + 1)).flatMap Cm.enc ++ (xs.drop (k + 1)).flatMap Cm.enc := by rw [← List.flatMap_append, List.take_append_drop]
    have l1 := flat_len Cm.enc 8 (fun _ => rfl) (xs.take (k + 1))
    rw [List.length_take, Nat.min_eq_left (by omega)] at l1
    rw [e, List.getElem?_append_right (by omega), ← hu]
    congr 1
    omega
  obtain ⟨A, hA, hsA⟩ : ∃ A : Addr, (if cap = k + 1 then some (⟨g, 0, none⟩ : Addr) else some ⟨g, (k + 1) * 8, none⟩) = some A ∧ Hid (∀ t u, ((xs.drop (k + 1)).flatMap Cm.enc)[t]? = some u → w.drew.cell? (A.add t) = some u) := by
    by_cases hq : cap = k + 1
    · refine ⟨⟨g, 0, none⟩, by simp [hq], fun t u hu => ?_⟩
      have := (List.getElem?_eq_some_iff.1 hu).1
      omega
    · refine ⟨⟨g, (k + 1) * 8, none⟩, by simp [hq], fun t u hu => ?_⟩
      rw [Addr.add_lit]
      exact hsrc t u hu
  have s1 := Lib.hid (show ((xs.drop (k + 1)).flatMap Cm.enc).length = (xs.length - (k + 1)) * 8 from hlen)
  have s2 := Lib.hid (flat_one Cm.one (xs.drop (k + 1)))
  have s3 := Lib.hid (show ∀ t, t < ((xs.drop (k + 1)).flatMap Cm.enc).length → (w.drew.cell? ⟨g, 0 + k * 8 + t, none⟩).isSome = true ∧ w.drew.frozen? ⟨g, 0 + k * 8 + t, none⟩ = false from fun t ht => ⟨hcell _ (by omega), h.frozenAt _⟩)
  obtain ⟨W1, hW1⟩ : ∃ W1, W1 = w.drew.setCells g (0 + k * 8) ((xs.drop (k + 1)).flatMap Cm.enc) := ⟨_, rfl⟩
  have hcl : ∀ ty, (Builtin.clear_ #[25] ty #[.slice (some ⟨g, (xs.length - 1) * 8, none⟩) 1 (cap - (xs.length - 1))]).run Tryz.prog W1 = .ok (.tuple #[]) (W1.setCells g ((xs.length - 1) * 8) [.int .i64 0, .int .i64 0, .int .i64 0, .int .i64 0, .string ⟨#[]⟩, .string ⟨#[]⟩, .bool false, .bool false]) := fun ty => run_clearCm W1 g _ _ ty (fun j hj => by
      rw [hW1]
      refine Lib.isSome_setCells g _ _ _ _ ?_
      exact hcell _ (by omega)) (fun j hj => by rw [hW1, World.frozen?_setCells]; exact h.frozenAt _)
  have hdone := delete_done (enc := Cm.enc) (fun _ => rfl) (w := w.drew) (k := k) (World.ownsRow.drew h) hk [.int .i64 0, .int .i64 0, .int .i64 0, .int .i64 0, .string ⟨#[]⟩, .string ⟨#[]⟩, .bool false, .bool false] rfl
  rw [show k * 8 = 0 + k * 8 by omega, ← hW1] at hdone
  have HD := Lib.hid hdone
  have HW := Lib.hid hW1
  have JI := Lib.hid hj; have J1 := Lib.hid hy1
  have HB0 := Lib.hid ((Below.refl base w).drew)
  clear hdone hW1 hj hy0 hy1 hy2 hlen hcell hsrc h hcap
  generalize (xs.drop (k + 1)).flatMap Cm.enc = news at *
  generalize dropAt xs k = ds at *
  have mixed : Tryz.prog.follows Departure.mixedOrders = true := by kernel_rfl
  obtain ⟨m, hm1⟩ : ∃ m, xs.length = k + 1 + m := ⟨xs.length - (k + 1), by omega⟩
  generalize xs.length = n at *
  have e1 : n - (k + 1) = m := by omega
  have e2 : n - 1 = k + m := by omega
  have e3 : n - (k + m) = 1 := by omega
  rw [e1] at s1
  rw [e2] at hcl HD ⊢
  have hk0 : (0 : Int) ≤ (k : Int) + 1 := by omega
  have hk1 : (k : Int) + 1 ≤ (n : Int) := by omega
  have hkmn : k + m ≤ n := by omega
  have hkmi : (k : Int) + (m : Int) ≤ (n : Int) := by omega
  have hkm0 : (0 : Int) ≤ (k : Int) + (m : Int) := by omega
  have hnc : n ≤ cap := hc1
  have HM1 := Lib.hid hm1
  clear hm1
  have hic : k ≤ cap := by omega
  have hjc : k + 1 ≤ cap := by omega
  have hkm : k + m ≤ cap := by omega
  have hkm2 : ¬ cap = k + m := by omega
  have hcm : cap ≤ maxLen := by unfold maxLen; omega
  go_enter Tryz.func189, Tryz.ntmps189
  go_wp2_with fail
  go_region_law_o (refine step_append_room rfl (.tmp 22) (.tmp 25) 25 rfl 52 j0 8 Tryz.underlying25 JI.out J1.out g 0 k cap (by simp [Act.eval, Act.put]) A m (cap - (k + 1)) news (by simp [Act.eval, Act.put]) s1.out hsA.out s2.out (by omega) s3.out ?_; rw [← HW.out])
  go_wp2_with fail
  go_ret
  exact ⟨rfl, HD.out.1, HB0.out.trans HD.out.2⟩
end Go.Proofs.YtnlnmbcaongehaaGreatDoor
namespace Go.Proofs.YtnlnmbcaongehaaGreatDoor
open Go.RowKit Go.Lib
set_option maxRecDepth 100000 in
set_option maxHeartbeats 4000000 in
theorem insertCm_nil (base : Nat) (x : Cm) (g c : Nat) (w : World) (hv : SliceOf 8 Cm.enc Flat w (some ⟨g, 0, none⟩) [x]) (hb : base ≤ w.heap.size) :
    Calls Tryz.prog 190 #[.slice none 0 0, .int .i64 0, .slice (some ⟨g, 0, none⟩) 1 c] w (InsPost 8 Cm.enc base [x] w) := by
  have HQ := Lib.hid (fun (v' : Value) (w' : World) (ho : w'.ownsRow base 52 8 v' (0 + [x].length) ([] ++ [x].flatMap Cm.enc)) (hg : w.grownBy w' (Value.slice none 0 0).ownBlock) => (show InsPost 8 Cm.enc base [x] w (.returned v') w' from by
    obtain ⟨a, c, rfl, hS⟩ := sliceOf_owns (k := 8) (enc := Cm.enc) (Ok := Flat) (xs := [x]) (fun _ => rfl) ho (fun _ _ => trivial)
    exact ⟨a, c, rfl, hS, fun ad had => (ho.lt ad.block (by rw [had]; rfl)).1, (Below.refl base w).grown hg hb (fun j hj => by simp [Value.ownBlock] at hj)⟩))
  obtain ⟨j0, hj, hy0, hy1, hy2⟩ := info_parts Tryz.info52
  have JI := Lib.hid hj; have J0 := Lib.hid hy0; have J1 := Lib.hid hy1; have J2 := Lib.hid hy2
  have HV := Lib.hid hv
  clear hj hy0 hy1 hy2 hv
  generalize InsPost 8 Cm.enc base [x] w = Q at *
  go_enter Tryz.func190, Tryz.ntmps190
  go_wp2_with (at_builtin; refine wpList_append_slice (enc := Cm.enc) (Ok := Flat) _ rfl (.tmp 23) (.tmp 24) 25 rfl base 52 j0 _ 8 72 Tryz.underlying25 JI.out J0.out J1.out J2.out rfl (by decide) (fun _ => rfl) Cm.one _ 0 [] rfl (World.ownsRow_nil _ _ _ _) (some ⟨g, 0, none⟩) c [x] rfl HV.out ?h63 ?hb ?hbase ?_)
  case h63 => simp only [List.length_cons, List.length_nil]; unfold maxLen; omega
  case hb => simp only [List.length_cons, List.length_nil]; omega
  case hbase => exact hb
  intro v' w' ho hg _
  have HF := Lib.hid (HQ.out v' w' ho hg)
  obtain ⟨a', c', rfl⟩ : ∃ a' c', v' = .slice a' 1 c' := by
    rcases ho.2 with ⟨rfl, h0⟩ | ⟨g, cap, _, rfl, _⟩
    · simp at h0
    · exact ⟨_, _, rfl⟩
  clear ho hg
  go_wp2_with fail
  exact HF.out
set_option maxRecDepth 100000 in
set_option maxHeartbeats 4000000 in
theorem insertCm_end (base b cap : Nat) (xs : List Cm) (x : Cm) (g c : Nat) (w : World) (h : w.ownsRow base 52 8 (.slice (some ⟨b, 0, none⟩) xs.length cap) xs.length (xs.flatMap Cm.enc)) (hv : SliceOf 8 Cm.enc Flat w (some ⟨g, 0, none⟩) [x]) (hl : xs.length ≤ 8000000) (hb : base ≤ w.heap.size) :
    Calls Tryz.prog 190 #[.slice (some ⟨b, 0, none⟩) xs.length cap, .int .i64 xs.length, .slice (some ⟨g, 0, none⟩) 1 c] w (InsPost 8 Cm.enc base (xs ++ [x]) w) := by
  have HQ := Lib.hid (fun (cp : Nat) (v' : Value) (w' : World) (ho : w'.ownsRow base 52 8 v' (xs.length + 1) (xs.flatMap Cm.enc ++ [x].flatMap Cm.enc)) (hg : w.grownBy w' (Value.slice (some ⟨b, 0, none⟩) xs.length cp).ownBlock) => (show InsPost 8 Cm.enc base (xs ++ [x]) w (.returned v') w' from by
    rw [← List.flatMap_append] at ho
    rw [show xs.length + 1 = (xs ++ [x]).length by simp] at ho
    obtain ⟨a, c, rfl, hS⟩ := sliceOf_owns (k := 8) (enc := Cm.enc) (Ok := Flat) (fun _ => rfl) ho (fun _ _ => trivial)
    exact ⟨a, c, rfl, hS, fun ad had => (ho.lt ad.block (by rw [had]; rfl)).1, (Below.refl base w).grown hg hb (fun j hj => (h.lt j hj).1)⟩))
  obtain ⟨j0, hj, hy0, hy1, hy2⟩ := info_parts Tryz.info52
  have JI := Lib.hid hj; have J0 := Lib.hid hy0; have J1 := Lib.hid hy1; have J2 := Lib.hid hy2
  have HO := Lib.hid h
  have HV := Lib.hid hv
  have hca : xs.length ≤ cap := by
    rcases h.2 with ⟨he, h0⟩ | ⟨g, cap, _, he, _, _, hc, _⟩
    · simp at he
    · simp only [Value.slice.injEq] at he
      obtain ⟨_, _, rfl⟩ := he
      exact hc
  have hcm : (cap : Int) ≤ 9223372036854775807 := by
    rcases h.2 with ⟨he, h0⟩ | ⟨g, cap, _, he, _, _, hc, hm, _⟩
    · simp at he
    · simp only [Value.slice.injEq] at he
      obtain ⟨_, _, rfl⟩ := he
      simp only [maxLen] at hm
      omega
  clear hj hy0 hy1 hy2 h hv
  generalize InsPost 8 Cm.enc base (xs ++ [x]) w = Q at *
  generalize xs.flatMap Cm.enc = cs at *
  generalize xs.length = n at *
  rcases (show cap = n ∨ ¬ cap = n from Classical.em _) with hq | hq
  case' inl => subst hq
  all_goals
    go_enter Tryz.func190, Tryz.ntmps190
    go_wp2_with (at_builtin; refine wpList_append_slice (enc := Cm.enc) (Ok := Flat) _ rfl (.tmp 23) (.tmp 24) 25 rfl base 52 j0 _ 8 72 Tryz.underlying25 JI.out J0.out J1.out J2.out rfl (by decide) (fun _ => rfl) Cm.one _ _ cs rfl HO.out (some ⟨g, 0, none⟩) c [x] rfl HV.out ?h63 ?hb ?hbase ?_)
    case h63 => simp only [List.length_cons, List.length_nil]; unfold maxLen; omega
    case hb => simp only [List.length_cons, List.length_nil]; omega
    case hbase => exact hb
    intro v' w' ho hg _
    have HF := Lib.hid (HQ.out _ v' w' ho hg)
    obtain ⟨g', c', rfl⟩ := ownForm ho (by simp)
    clear ho hg
    go_wp2_with fail
    exact HF.out
set_option maxRecDepth 100000 in
set_option maxHeartbeats 8000000 in
theorem insertCm_shift (base b i g cap vc : Nat) (xs : List Cm) (x : Cm) (w : World) (h : w.ownsRow base 52 8 (.slice (some ⟨b, 0, none⟩) xs.length cap) xs.length (xs.flatMap Cm.enc)) (hv : w.heap[g]? = some (.cells x.enc.toArray 52 (0, 0))) (hi : i < xs.length) (hroom : xs.length + 1 ≤ cap) (hgb : g ≠ b) (hl : xs.length ≤ 8000000) (hbw : base ≤ w.heap.size) :
    Calls Tryz.prog 190 #[.slice (some ⟨b, 0, none⟩) xs.length cap, .int .i64 i, .slice (some ⟨g, 0, none⟩) 1 vc] w (InsPost 8 Cm.enc base (insAt xs i x) w) := by
  obtain ⟨hbb, hbl⟩ := h.lt b rfl
  have hc63 : cap ≤ 9223372036854775807 := by
    rcases h.2 with ⟨he, h0⟩ | ⟨g, cap, _, he, _, _, hc, hm, _⟩
    · simp at he
    · simp only [Value.slice.injEq] at he
      obtain ⟨_, _, rfl⟩ := he
      simp only [maxLen] at hm
      omega
  obtain ⟨cur, hcur, hcs⟩ : ∃ cur, w.heap[b]? = some (.cells cur 52 (0, 0)) ∧ (xs.length + 1) * 8 ≤ cur.size := by
    rcases h.2 with ⟨he, h0⟩ | ⟨g, cap, cur, he, _, hg, hc, hm, hz, _⟩
    · simp at he
    · simp only [Value.slice.injEq, Option.some.injEq, Addr.mk.injEq, and_true, true_and] at he
      obtain ⟨rfl, rfl⟩ := he
      exact ⟨cur, hg, by first | (rw [hz]; exact Nat.mul_le_mul_right 8 hroom) | (rw [← hz]; exact Nat.mul_le_mul_right 8 hroom) | omega⟩
  have hfr : ∀ j, w.frozen? ⟨b, j, none⟩ = false := h.frozenAt
  have hcell : ∀ j u, (xs.flatMap Cm.enc)[j]? = some u → w.cell? ⟨b, j, none⟩ = some u := fun j u hu => by
    have hj := (List.getElem?_eq_some_iff.1 hu).1
    rw [h.cellAt j (by rw [← h.1]; exact hj)]
    exact hu
  have hspc : ∀ j, j < (xs.length + 1) * 8 → (w.cell? ⟨b, j, none⟩).isSome = true := fun j hj => by
    rw [cell_of_row w b j cur 52 (0, 0) hcur, Array.getElem?_eq_getElem (by omega)]; rfl
  have hvc : ∀ j u, x.enc[j]? = some u → w.cell? ⟨g, j, none⟩ = some u := fun j u hu => by
    rw [cell_of_row w g j _ 52 (0, 0) hv]
    simpa using hu
  have hsa : w.shape? g = some (52, 8) := by
    have : x.enc.toArray.size = 8 := rfl
    simp [World.shape?, hv, this]
  have hsb : w.shape? b = some (52, cur.size) := by simp [World.shape?, hcur]
  have hgf : ∀ j, w.frozen? ⟨g, j, none⟩ = false := fun j => by simp [World.frozen?, hv]
  have hz2 : ¬ ((i : Int) = (xs.length : Int)) := by omega
  have hsz : (Tryz.prog.info? 52).map (·.size) = some 8 := by kernel_rfl
  have hlen := flat_len Cm.enc 8 (fun _ => rfl) xs
  have hln1 := flat_len Cm.enc 8 (fun _ => rfl) (xs.take i)
  have hln2 := flat_len Cm.enc 8 (fun _ => rfl) (xs.drop i)
  rw [List.length_take, Nat.min_eq_left (by omega)] at hln1
  rw [List.length_drop] at hln2
  have hsplit : xs.flatMap Cm.enc = (xs.take i).flatMap Cm.enc ++ (xs.drop i).flatMap Cm.enc := by rw [← List.flatMap_append, List.take_append_drop]
  have hc1 : ∀ j u, ((xs.take i).flatMap Cm.enc)[j]? = some u → w.cell? ⟨b, j, none⟩ = some u := fun j u hu => hcell j u (by
    rw [hsplit, List.getElem?_append_left (List.getElem?_eq_some_iff.1 hu).1]; exact hu)
  have hc2 : ∀ j u, ((xs.drop i).flatMap Cm.enc)[j]? = some u → w.cell? ⟨b, i * 8 + j, none⟩ = some u := fun j u hu => hcell (i * 8 + j) u (by
    rw [hsplit, List.getElem?_append_right (by omega), hln1, Nat.add_sub_cancel_left]; exact hu)
  have ho2 : ∀ v ∈ (xs.drop i).flatMap Cm.enc, v.oneCell' = true := flat_one Cm.one _
  have hfl := insAt_flat Cm.enc xs i x
  have hil := insAt_len xs i x (by omega)
  have hxl : x.enc.length = 8 := rfl
  have hov : ∀ lb cb, (callFunc 250 #[.slice (some ⟨g, 0, none⟩) 1 vc, .slice (some ⟨b, (i + 1) * 8, none⟩) lb cb]).run Tryz.prog w = .ok (.value (.bool false)) w := fun lb cb => by
    rw [run_callFunc_extern Tryz.func250 (by kernel_rfl) (by kernel_rfl) (by kernel_rfl) (e := Extern.SlicesOverlaps.overlaps #[25, 25] #[4]) (by kernel_rfl),
      Lib.run_overlaps_apart w 25 4 52 Tryz.underlying25 8 (fun w => by kernel_rfl) ⟨g, 0, none⟩ ⟨b, (i + 1) * 8, none⟩ 1 vc lb cb hgb 52 52 8 cur.size hsa hsb (by omega) (hgf 0) (hgf 8)]
    rfl
  have hcp1 : ∀ ty dc sc, (Builtin.copy_ #[25, 25] ty #[.slice (some ⟨b, (i + 1) * 8, none⟩) (xs.length - i) dc, .slice (some ⟨b, i * 8, none⟩) (xs.length + 1 - i) sc]).run Tryz.prog w.drew = .ok (goInt (xs.length - i : Nat)) (w.drew.setCells b ((i + 1) * 8) ((xs.drop i).flatMap Cm.enc)) := fun ty dc sc =>
    run_copy_k w.drew _ _ ty 52 8 b ((i + 1) * 8) (xs.length - i) dc ⟨b, i * 8, none⟩ (xs.length + 1 - i) sc (xs.length - i) _ Tryz.underlying25 hsz (by simp only [Nat.min_def]; split <;> omega) hln2
      (fun j v hj => by rw [Addr.add_lit]; exact hc2 j v hj) (fun j hj => hspc _ (by omega)) (fun j hj => hfr _) ho2
  obtain ⟨W1, hW1⟩ : ∃ W1, W1 = w.drew.setCells b ((i + 1) * 8) ((xs.drop i).flatMap Cm.enc) := ⟨_, rfl⟩
  have hsp1 : ∀ k, k < (xs.length + 1) * 8 → (W1.cell? ⟨b, k, none⟩).isSome = true := fun k hk => by
    rw [hW1]
    exact Lib.isSome_setCells _ _ _ _ _ (hspc k hk)
  have hcp2 : ∀ (W : World), (∀ x, W.cell? x = W1.cell? x) → (∀ x, W.frozen? x = W1.frozen? x) → ∀ ty dc, (Builtin.copy_ #[25, 25] ty #[.slice (some ⟨b, i * 8, none⟩) (xs.length + 1 - i) dc, .slice (some ⟨g, 0, none⟩) 1 vc]).run Tryz.prog W = .ok (goInt (1 : Nat)) (W.setCells b (i * 8) x.enc) := fun W hWc hWf ty dc =>
    run_copy_k W _ _ ty 52 8 b (i * 8) (xs.length + 1 - i) dc ⟨g, 0, none⟩ 1 vc 1 _ Tryz.underlying25 hsz (by simp only [Nat.min_def]; split <;> omega) (by rw [hxl])
      (fun j v hj => by
        rw [Addr.add_lit, hWc, hW1, World.cell?_setCells_out b _ _ _ _ (fun h _ => absurd h hgb)]
        rw [Nat.zero_add]
        exact hvc j v hj)
      (fun j hj => by rw [hWc]; exact hsp1 _ (by omega)) (fun j hj => by rw [hWf, hW1, World.frozen?_setCells]; exact hfr _) (Cm.one x)
  rw [← hW1] at hcp1
  have HQ := Lib.hid (show InsPost 8 Cm.enc base (insAt xs i x) w (.returned (.slice (some ⟨b, 0, none⟩) (xs.length + 1) cap)) (W1.setCells b (i * 8) x.enc) from by
    have hbel : Below base w (W1.setCells b (i * 8) x.enc) := by
      rw [hW1]
      exact Lib.below_setCells b hbb _ _ (Lib.below_setCells b hbb _ _ (Below.refl base w).drew)
    refine ⟨some ⟨b, 0, none⟩, cap, by rw [hil], sliceOf_flat (enc := Cm.enc) (fun _ => rfl) ?_ ?_, fun ad had => ?_, hbel⟩
    · have := hbel.size
      have h2 := (Lib.below_setCells b (Nat.le_refl b) x.enc (i * 8) (Lib.below_setCells b (Nat.le_refl b) ((xs.drop i).flatMap Cm.enc) ((i + 1) * 8) (Below.refl b w).drew)).size
      rw [← hW1] at h2
      omega
    · rw [hfl, hW1]
      have := shift_cells (W := w.drew) (g := b) (L1 := (xs.take i).flatMap Cm.enc) (V := x.enc) (L2 := (xs.drop i).flatMap Cm.enc) (fun j u hu => by rw [Nat.zero_add]; exact hc1 j u hu) (fun j hj => hspc j (by rw [hln1, hln2, hxl] at hj; omega))
      rw [hln1, hxl, show i * 8 + 8 = (i + 1) * 8 by omega] at this
      exact this
    · obtain rfl := Option.some.inj had
      exact hbb)
  generalize InsPost 8 Cm.enc base (insAt xs i x) w = Q at *
  have hHOV := Lib.hid hov
  have mixed : Tryz.prog.follows Departure.mixedOrders = true := by kernel_rfl
  clear hfl hil hsplit hlen hln1 hln2 hc1 hc2 hcell hspc hvc hsa hsb hgf hfr hcs hcur h hv hsp1 hW1 hov
  generalize (xs.drop i).flatMap Cm.enc = ds at *
  generalize x.enc = xe at *
  generalize xs.length = n at *
  have hw1 : IntKind.i64.wrap ((i : Int) + 1) = (i : Int) + 1 := by rw [IntKind.wrap_i64]; omega
  have hw2 : IntKind.i64.wrap ((n : Int) + 1) = (n : Int) + 1 := by rw [IntKind.wrap_i64]; omega
  have hb1 : (0 : Int) ≤ (i : Int) + 1 := by omega
  have hin : i ≤ n := by omega
  have htn : ((i : Int) + 1).toNat = i + 1 := by omega
  have htm : ((n : Int) + 1).toNat = n + 1 := by omega
  have hb2 : ¬ (cap = i + 1) := by omega
  have hb3 : (i : Int) ≤ (n : Int) + 1 := by omega
  have hb4 : ¬ (cap = i) := by omega
  have HCP1 := Lib.hid hcp1
  have HCP2 := Lib.hid hcp2
  clear hcp1 hcp2
  go_enter Tryz.func190, Tryz.ntmps190
  go_wp2_with (simp only [hHOV.out])
  go_region_law_o (refine step_copy_runI rfl _ _ 25 25 rfl (.slice (some ⟨b, (i + 1) * 8, none⟩) (n - i) (cap - (i + 1))) (.slice (some ⟨b, i * 8, none⟩) (n + 1 - i) (cap - i)) (by simp [Act.eval, Act.put]) (by simp [Act.eval, Act.put]) (HCP1.out 3 (cap - (i + 1)) (cap - i)) ?_)
  go_wp2_with (refine wpList_copy_runI _ rfl _ _ 25 25 rfl _ _ rfl rfl (HCP2.out _ (fun _ => rfl) (fun _ => rfl) _ _) ?_)
  exact HQ.out
set_option maxRecDepth 100000 in
set_option maxHeartbeats 8000000 in
theorem insertCm_grow (base b i g cap vc : Nat) (xs : List Cm) (x : Cm) (w : World) (h : w.ownsRow base 52 8 (.slice (some ⟨b, 0, none⟩) xs.length cap) xs.length (xs.flatMap Cm.enc)) (hv : w.heap[g]? = some (.cells x.enc.toArray 52 (0, 0))) (hi : i < xs.length) (hroom : cap < xs.length + 1) (hl : xs.length ≤ 8000000) (hbw : base ≤ w.heap.size) :
    Calls Tryz.prog 190 #[.slice (some ⟨b, 0, none⟩) xs.length cap, .int .i64 i, .slice (some ⟨g, 0, none⟩) 1 vc] w (InsPost 8 Cm.enc base (insAt xs i x) w) := by
  obtain ⟨hbb, hbl⟩ := h.lt b rfl
  have hnc : xs.length ≤ cap := by
    rcases h.2 with ⟨he, h0⟩ | ⟨g, cap, cur, he, _, hg, hc, hm, hz, _⟩
    · simp at he
    · simp only [Value.slice.injEq, Option.some.injEq, Addr.mk.injEq, and_true, true_and] at he
      obtain ⟨rfl, rfl⟩ := he
      exact hc
  have hcell : ∀ j u, (xs.flatMap Cm.enc)[j]? = some u → w.cell? ⟨b, j, none⟩ = some u := fun j u hu => by
    have hj := (List.getElem?_eq_some_iff.1 hu).1
    rw [h.cellAt j (by rw [← h.1]; exact hj)]
    exact hu
  have hvc : ∀ j u, x.enc[j]? = some u → w.cell? ⟨g, j, none⟩ = some u := fun j u hu => by
    rw [cell_of_row w g j _ 52 (0, 0) hv]
    simpa using hu
  have hvw : g < w.heap.size := (Array.getElem?_eq_some_iff.1 hv).1
  obtain ⟨i0, hi0, hz0, hzs, hzb⟩ := info_parts Tryz.info52
  have hz2 : ¬ ((i : Int) = (xs.length : Int)) := by omega
  have hz3 : (cap : Int) < (xs.length : Int) + 1 := by omega
  have hsz : (Tryz.prog.info? 52).map (·.size) = some 8 := by kernel_rfl
  have hln1 := flat_len Cm.enc 8 (fun _ => rfl) (xs.take i)
  have hln2 := flat_len Cm.enc 8 (fun _ => rfl) (xs.drop i)
  rw [List.length_take, Nat.min_eq_left (by omega)] at hln1
  rw [List.length_drop] at hln2
  have hsplit : xs.flatMap Cm.enc = (xs.take i).flatMap Cm.enc ++ (xs.drop i).flatMap Cm.enc := by rw [← List.flatMap_append, List.take_append_drop]
  have hc1 : ∀ j u, ((xs.take i).flatMap Cm.enc)[j]? = some u → w.cell? ⟨b, j, none⟩ = some u := fun j u hu => hcell j u (by
    rw [hsplit, List.getElem?_append_left (List.getElem?_eq_some_iff.1 hu).1]; exact hu)
  have hc2 : ∀ j u, ((xs.drop i).flatMap Cm.enc)[j]? = some u → w.cell? ⟨b, i * 8 + j, none⟩ = some u := fun j u hu => hcell (i * 8 + j) u (by
    rw [hsplit, List.getElem?_append_right (by omega), hln1, Nat.add_sub_cancel_left]; exact hu)
  have hfl := insAt_flat Cm.enc xs i x
  have hil := insAt_len xs i x (by omega)
  have hxl : x.enc.length = 8 := rfl
  have hkk : (xs.length : Int) + 1 - (i : Int) = ((xs.length + 1 - i : Nat) : Int) := by omega
  have hik : i + (xs.length + 1 - i) = xs.length + 1 := by omega
  have hold : (Builtin.firstCells i0.size i (.slice (some ⟨b, 0, none⟩) i cap)).run Tryz.prog w.drew = .ok ((xs.take i).flatMap Cm.enc).toArray w.drew := by
    rw [hzs]
    exact run_firstCells_some w.drew 8 i ⟨b, 0, none⟩ i cap _ hln1 (fun j v hj => by
      rw [Addr.add_lit, Nat.zero_add]
      exact hc1 j v hj)
  have hbig : (xs.length + 1) * 72 ≤ 140737488355328 := by omega
  have hrz : ∀ ty, (Builtin.append_ #[25, 3] ty #[.slice (some ⟨b, 0, none⟩) i cap, .int .i64 ((xs.length : Int) + 1 - (i : Int))]).run Tryz.prog w =
      .ok (.slice (some ⟨w.heap.size, 0, none⟩) (xs.length + 1) (grownCap w (xs.length + 1) cap 52)) (w.drew.alloc (.cells (((xs.take i).flatMap Cm.enc).toArray ++ Builtin.zeroCells (Value.agg #[.int .i64 0, .int .i64 0, .int .i64 0, .int .i64 0, .string ⟨#[]⟩, .string ⟨#[]⟩, .bool false, .bool false]).cells (xs.length + 1 - i) ++ Builtin.zeroCells (Value.agg #[.int .i64 0, .int .i64 0, .int .i64 0, .int .i64 0, .string ⟨#[]⟩, .string ⟨#[]⟩, .bool false, .bool false]).cells (grownCap w (xs.length + 1) cap 52 - (xs.length + 1))) 52)) := fun ty => by
    have h := Lib.run_append_grow_zeros w 25 3 ty 52 i0 _ .i64 .i64 Tryz.underlying25 Tryz.underlying3 hi0 hz0 (some ⟨b, 0, none⟩) i cap _ hold (xs.length + 1 - i) (by omega) (by omega) (by omega) (by omega) (by rw [hzb]; omega) (by rw [hzb, hik]; exact growslice_fits hroom hbig)
    rw [hik] at h
    rw [hkk]
    exact h
  obtain ⟨G, hG⟩ : ∃ G, G = grownCap w (xs.length + 1) cap 52 := ⟨_, rfl⟩
  obtain ⟨ROW, hROW⟩ : ∃ ROW : Array Value, ROW = ((xs.take i).flatMap Cm.enc).toArray ++ Builtin.zeroCells (Value.agg #[.int .i64 0, .int .i64 0, .int .i64 0, .int .i64 0, .string ⟨#[]⟩, .string ⟨#[]⟩, .bool false, .bool false]).cells (xs.length + 1 - i) ++ Builtin.zeroCells (Value.agg #[.int .i64 0, .int .i64 0, .int .i64 0, .int .i64 0, .string ⟨#[]⟩, .string ⟨#[]⟩, .bool false, .bool false]).cells (G - (xs.length + 1)) := ⟨_, rfl⟩
  rw [← hG] at hrz
  rw [← hROW] at hrz
  have hRl : (xs.length + 1) * 8 ≤ ROW.size := by
    rw [hROW]
    simp [Builtin.zeroCells, Value.cells, hln1]
    omega
  have hR1 : ∀ j u, ((xs.take i).flatMap Cm.enc)[j]? = some u → ROW[j]? = some u := fun j u hu => by
    have hj := (List.getElem?_eq_some_iff.1 hu).1
    rw [hROW, Array.append_assoc, Array.getElem?_append_left (by simpa using hj)]
    simpa using hu
  obtain ⟨W1, hW1⟩ : ∃ W1, W1 = w.drew.alloc (.cells ROW 52) := ⟨_, rfl⟩
  rw [← hW1] at hrz
  have hN : ∀ j, j < (xs.length + 1) * 8 → (W1.cell? ⟨w.heap.size, j, none⟩).isSome = true := fun j hj => by
    rw [hW1, World.cell?_alloc_at (w := w.drew) ROW _ w.heap.size j rfl, Array.getElem?_eq_getElem (by omega)]; rfl
  have hN1 : ∀ j u, ((xs.take i).flatMap Cm.enc)[j]? = some u → W1.cell? ⟨w.heap.size, j, none⟩ = some u := fun j u hu => by
    rw [hW1, World.cell?_alloc_at (w := w.drew) ROW _ w.heap.size j rfl]; exact hR1 j u hu
  have hNf : ∀ j, W1.frozen? ⟨w.heap.size, j, none⟩ = false := fun j => by rw [hW1]; exact World.frozen?_alloc_at (w := w.drew) ROW _ w.heap.size j rfl
  have hOb : ∀ j v, w.cell? ⟨b, j, none⟩ = some v → W1.cell? ⟨b, j, none⟩ = some v := fun j v h => by rw [hW1, World.cell?_alloc_past (w := w.drew) _ b j hbl]; exact h
  have hOv : ∀ j v, w.cell? ⟨g, j, none⟩ = some v → W1.cell? ⟨g, j, none⟩ = some v := fun j v h => by rw [hW1, World.cell?_alloc_past (w := w.drew) _ g j hvw]; exact h
  have hcpA : ∀ (W : World), (∀ x, W.cell? x = W1.cell? x) → (∀ x, W.frozen? x = W1.frozen? x) → ∀ ty dc, (Builtin.copy_ #[25, 25] ty #[.slice (some ⟨w.heap.size, i * 8, none⟩) (xs.length + 1 - i) dc, .slice (some ⟨g, 0, none⟩) 1 vc]).run Tryz.prog W = .ok (goInt (1 : Nat)) (W.setCells w.heap.size (i * 8) x.enc) := fun W hWc hWf ty dc =>
    run_copy_k W _ _ ty 52 8 w.heap.size (i * 8) (xs.length + 1 - i) dc ⟨g, 0, none⟩ 1 vc 1 _ Tryz.underlying25 hsz (by simp only [Nat.min_def]; split <;> omega) (by rw [hxl])
      (fun j v hj => by rw [Addr.add_lit, hWc, Nat.zero_add]; exact hOv _ v (hvc j v hj))
      (fun j hj => by rw [hWc]; exact hN _ (by omega)) (fun j hj => by rw [hWf]; exact hNf _) (Cm.one x)
  have hGn : xs.length + 1 ≤ G := by rw [hG]; exact grownCap_ge w _ _ _
  have hG63 : G ≤ 9223372036854775807 := by
    have := grownCap_le_maxLen w (xs.length + 1) cap 52 (by unfold maxLen; omega)
    rw [← hG] at this
    unfold maxLen at this
    omega
  have hGi : ¬ (G = i) := by omega
  have hGim : ¬ (G = i + 1) := by omega
  have hci : ¬ (cap = i) := by omega
  have hbN : b ≠ w.heap.size := by omega
  have hcpB : ∀ (W : World), (∀ y, W.cell? y = (W1.setCells w.heap.size (i * 8) x.enc).cell? y) → (∀ y, W.frozen? y = (W1.setCells w.heap.size (i * 8) x.enc).frozen? y) → ∀ ty dc sc, (Builtin.copy_ #[25, 25] ty #[.slice (some ⟨w.heap.size, (i + 1) * 8, none⟩) (xs.length - i) dc, .slice (some ⟨b, i * 8, none⟩) (xs.length - i) sc]).run Tryz.prog W = .ok (goInt (xs.length - i : Nat)) (W.setCells w.heap.size ((i + 1) * 8) ((xs.drop i).flatMap Cm.enc)) := fun W hWc hWf ty dc sc =>
    run_copy_k W _ _ ty 52 8 w.heap.size ((i + 1) * 8) (xs.length - i) dc ⟨b, i * 8, none⟩ (xs.length - i) sc (xs.length - i) _ Tryz.underlying25 hsz (by simp only [Nat.min_def]; split <;> omega) hln2
      (fun j v hj => by
        rw [Addr.add_lit, hWc, World.cell?_setCells_out _ _ _ _ _ (fun h _ => absurd h hbN)]
        exact hOb _ v (hc2 j v hj))
      (fun j hj => by rw [hWc]; exact Lib.isSome_setCells _ _ _ _ _ (hN _ (by omega)))
      (fun j hj => by rw [hWf, World.frozen?_setCells]; exact hNf _) (flat_one Cm.one _)
  have HQ := Lib.hid (fun (W : World) (hW : W.heap = W1.heap) (hbel : Below base w W) => (show InsPost 8 Cm.enc base (insAt xs i x) w (.returned (.slice (some ⟨w.heap.size, 0, none⟩) (xs.length + 1) G)) ((W.setCells w.heap.size (i * 8) x.enc).setCells w.heap.size ((i + 1) * 8) ((xs.drop i).flatMap Cm.enc)) from by
    have hWc : ∀ y, W.cell? y = W1.cell? y := fun y => by simp [World.cell?, hW]
    have hb2 : Below base w ((W.setCells w.heap.size (i * 8) x.enc).setCells w.heap.size ((i + 1) * 8) ((xs.drop i).flatMap Cm.enc)) := Lib.below_setCells _ hbw _ _ (Lib.below_setCells _ hbw _ _ hbel)
    refine ⟨some ⟨w.heap.size, 0, none⟩, G, by rw [hil], sliceOf_flat (enc := Cm.enc) (fun _ => rfl) ?_ ?_, fun ad had => ?_, hb2⟩
    · have h2 := (Lib.below_setCells w.heap.size (Nat.le_refl _) ((xs.drop i).flatMap Cm.enc) ((i + 1) * 8) (Lib.below_setCells w.heap.size (Nat.le_refl _) x.enc (i * 8) (Below.refl w.heap.size W))).size
      have h3 : W.heap.size = w.heap.size + 1 := by rw [hW, hW1]; simp
      omega
    · rw [hfl]
      have := grow_cells (W := W) (g := w.heap.size) (L1 := (xs.take i).flatMap Cm.enc) (V := x.enc) (L2 := (xs.drop i).flatMap Cm.enc) (fun j u hu => by rw [Nat.zero_add, hWc]; exact hN1 j u hu) (fun j hj => by rw [hWc]; exact hN j (by rw [hln1, hln2, hxl] at hj; omega))
      rw [hln1, hxl, show i * 8 + 8 = (i + 1) * 8 by omega] at this
      exact this
    · obtain rfl := Option.some.inj had
      exact hbw))
  have hE1 : ∀ x, ((w.alloc (.cells ROW 52)).drew).cell? x = (w.drew.alloc (.cells ROW 52)).cell? x := fun x => rfl
  have hE2 : ∀ x, ((w.alloc (.cells ROW 52)).drew).frozen? x = (w.drew.alloc (.cells ROW 52)).frozen? x := fun x => rfl
  have hF1 := cell_drew_set w (.cells ROW 52) w.heap.size (i * 8) x.enc
  have hF2 := frz_drew_set w (.cells ROW 52) w.heap.size (i * 8) x.enc
  subst hW1
  generalize InsPost 8 Cm.enc base (insAt xs i x) w = Q at *
  have mixed : Tryz.prog.follows Departure.mixedOrders = true := by kernel_rfl
  have HRZ := Lib.hid hrz
  have HCA := Lib.hid (hcpA _ hE1 hE2)
  have HCB := Lib.hid (hcpB _ hF1 hF2)
  have hw1 : IntKind.i64.wrap ((i : Int) + 1) = (i : Int) + 1 := by rw [IntKind.wrap_i64]; omega
  have hw2 : IntKind.i64.wrap ((xs.length : Int) + 1) = (xs.length : Int) + 1 := by rw [IntKind.wrap_i64]; omega
  have hw3 : IntKind.i64.wrap ((xs.length : Int) + 1 - (i : Int)) = (xs.length : Int) + 1 - (i : Int) := by rw [IntKind.wrap_i64]; omega
  have hb1 : (0 : Int) ≤ (i : Int) + 1 := by omega
  have hin : i ≤ xs.length := by omega
  have htn : ((i : Int) + 1).toNat = i + 1 := by omega
  have hb3 : (i : Int) ≤ (xs.length : Int) := by omega
  have HB1 := Lib.hid (show Below base w ((w.alloc (.cells ROW 52)).drew) from ((Below.refl _ _).alloc hbw _).drew)
  clear hkk hik hold hROW hG hRl hrz hcpA hcpB hR1 hN hN1 hNf hOb hOv hc1 hc2 hcell hvc hsplit hfl hil hln1 hln2 h hv hE1 hE2 hF1 hF2 hi0 hz0 hzs hzb hsz hbig
  generalize (xs.drop i).flatMap Cm.enc = ds at *
  generalize x.enc = xe at *
  generalize xs.length = n at *
  go_enter Tryz.func190, Tryz.ntmps190
  go_wp2_with (first
    | (at_builtin; refine Lib.wpList_append_run _ rfl _ _ _ _ rfl _ _ rfl rfl _ _ (HRZ.out _) ?_)
    | (refine wpList_copy_runI _ rfl _ _ 25 25 rfl _ _ rfl rfl (HCA.out _ _) ?_))
  go_region_law_o (refine step_copy_runI rfl _ _ 25 25 rfl (.slice (some ⟨w.heap.size, (i + 1) * 8, none⟩) (n - i) (G - (i + 1))) (.slice (some ⟨b, i * 8, none⟩) (n - i) (cap - i)) (by simp [Act.eval, Act.put]) (by simp [Act.eval, Act.put]) (HCB.out 3 (G - (i + 1)) (cap - i)) ?_)
  go_wp2_with fail
  rw [show ((w.alloc (.cells ROW 52)).drew.setCells w.heap.size (i * 8) xe).drew = (w.alloc (.cells ROW 52)).drew.drew.setCells w.heap.size (i * 8) xe from drew_setCells _ _ _ _]
  exact HQ.out _ rfl HB1.out.drew
end Go.Proofs.YtnlnmbcaongehaaGreatDoor
namespace Go.Proofs.YtnlnmbcaongehaaGreatDoor
open Go.RowKit
attribute [local go_sem ↓] Go.wp_at_zero Go.wp_at_succ
/-- slices.Insert of one element, whatever the list is. -/
theorem insertCm_calls (base : Nat) (v : Value) (xs : List Cm) (i : Nat) (x : Cm) (g vc : Nat) (w : World) (h : w.ownsRow base 52 8 v xs.length (xs.flatMap Cm.enc)) (hv : w.heap[g]? = some (.cells x.enc.toArray 52 (0, 0))) (hgb : v.ownBlock ≠ some g) (hi : i ≤ xs.length) (hl : xs.length ≤ 8000000) (hbw : base ≤ w.heap.size) :
    Calls Tryz.prog 190 #[v, .int .i64 i, .slice (some ⟨g, 0, none⟩) 1 vc] w (InsPost 8 Cm.enc base (insAt xs i x) w) := by
  have h1 := box_one (K := 8) (enc := Cm.enc) (fun _ => rfl) hv
  rcases h.2 with ⟨rfl, h0⟩ | ⟨b, cap, cur, rfl, hb', hg', hc, hm, _⟩
  · obtain rfl := List.eq_nil_of_length_eq_zero h0
    obtain rfl : i = 0 := by simpa using hi
    exact insertCm_nil base x g vc w h1 hbw
  · by_cases hi' : i < xs.length
    · by_cases hr : xs.length + 1 ≤ cap
      · exact insertCm_shift base b i g cap vc xs x w h hv hi' hr (fun e => hgb (by rw [e]; rfl)) hl hbw
      · exact insertCm_grow base b i g cap vc xs x w h hv hi' (by omega) hl hbw
    · obtain rfl : i = xs.length := by omega
      rw [insAt_end]
      exact insertCm_end base b cap xs x g vc w h h1 hl hbw
set_option maxRecDepth 100000 in
set_option maxHeartbeats 6400000 in
theorem changedCm_calls (a : Option Addr) (cap : Nat) (xs : List Cm) (c : Chg) (k : Nat) (i : Int) (x : Cm) (w : World) (h : SliceOf 8 Cm.enc Flat w a xs) (hk : c.added = false → k < xs.length ∧ i = (k : Int)) (hg : c.added = true → c.gone = false) (hl : xs.length ≤ 4000000) :
    Calls Tryz.prog 113 #[.slice a xs.length cap, .agg c.enc.toArray, .int .i64 i, .agg x.enc.toArray, .func (.func 42) #[] #[]] w (ListPost 8 Cm.enc (changedL c.added c.gone k (fun y : Cm => decide (y.id < x.id)) xs x) w) := by
  have HQ := Lib.hid (fun (ys : List Cm) (a' : Option Addr) (c' : Nat) (w' : World) (e : ys = changedL c.added c.gone k (fun y : Cm => decide (y.id < x.id)) xs x) (h1 : SliceOf 8 Cm.enc Flat w' a' ys) (h2 : ∀ ad, a' = some ad → w.heap.size ≤ ad.block) (h3 : Below w.heap.size w w') => (show ListPost 8 Cm.enc (changedL c.added c.gone k (fun y : Cm => decide (y.id < x.id)) xs x) w (.returned (.slice a' ys.length c')) w' from e ▸ ⟨a', c', rfl, h1, h2, h3⟩))
  generalize ListPost 8 Cm.enc (changedL c.added c.gone k (fun y : Cm => decide (y.id < x.id)) xs x) w = Q at *
  unfold changedL at HQ
  have HSL := Lib.hid (fun (w1 : World) (hb : Below w.heap.size w w1) => SliceOf.keeps Flat.keeps _ _ _ _ hb h)
  have HKX := Lib.hid (fun (w1 : World) => key42_calls x w1)
  obtain ⟨L1, hL1⟩ : ∃ L1, L1 = if c.added = true then xs else dropAt xs k := ⟨_, rfl⟩
  have hL1l : L1.length ≤ 4000000 := by
    rw [hL1]
    split
    · exact hl
    · have := dropAt_le xs k
      omega
  obtain ⟨RK, hRK⟩ : ∃ RK, RK = rankOf (fun y : Cm => decide (y.id < x.id)) L1 := ⟨_, rfl⟩
  have hRKl : RK ≤ L1.length := hRK ▸ rankOf_le _ _
  rw [← hL1, ← hRK] at HQ
  obtain ⟨sec, cid, cname, ad, gn, oh, nh, rg, nr, oe, ne, oc, nc⟩ := c
  simp only at hk hg hL1 HQ
  generalize hcs : Chg.enc _ = cl
  have hc3 : cl.toArray[3]? = some (.bool ad) := by rw [← hcs]; rfl
  have hc4 : cl.toArray[4]? = some (.bool gn) := by rw [← hcs]; rfl
  clear hcs
  obtain ⟨cs, hcs⟩ : ∃ cs, cs = cl.toArray := ⟨_, rfl⟩
  rw [← hcs] at hc3 hc4 ⊢
  clear hcs
  generalize hqs : x.enc.toArray = qs
  have HXE := Lib.hid hqs
  have HB := Lib.hid (fun (w1 : World) (h : Below (w.heap.size + 2) ((w.alloc (.cells cs 54)).alloc (.cells qs 52)) w1) => box2_below h)
  have f3 := box2_fst w cs qs 54 52 3 _ hc3
  have f4 := box2_fst w cs qs 54 52 4 _ hc4
  have hb0 : Below (w.heap.size + 2) ((w.alloc (.cells cs 54)).alloc (.cells qs 52)) ((w.alloc (.cells cs 54)).alloc (.cells qs 52)) := Below.refl _ _
  have hsz : ((w.alloc (.cells cs 54)).alloc (.cells qs 52)).heap.size = w.heap.size + 2 := by simp
  have hk2 : ((w.alloc (.cells cs 54)).alloc (.cells qs 52)).heap[w.heap.size + 1]? = some (.cells qs 52 (0, 0)) := by
    have := heap_alloc_last (w.alloc (.cells cs 54)) (.cells qs 52)
    rwa [World.size_alloc] at this
  generalize hW0 : (w.alloc (.cells cs 54)).alloc (.cells qs 52) = W0 at *
  have HW0 := Lib.hid hW0
  have HSZ := Lib.hid hsz
  have HT0 := Lib.hid (fun (w2 w3 : World) (h : Below (w.heap.size + 2) W0 w2) (h3 : Below w2.heap.size w2 w3) => (h.trans (h3.mono (by have := h.size; rw [HSZ.out] at this; exact this)) : Below (w.heap.size + 2) W0 w3))
  have HLT := Lib.hid (fun (w2 : World) (h : Below (w.heap.size + 2) W0 w2) => (show w.heap.size + 2 ≤ w2.heap.size by have := h.size; rw [HSZ.out] at this; exact this))
  have bx : ∀ (w' : World), Below (w.heap.size + 2) W0 w' → ∀ (j : Nat), w'.cell? ⟨w.heap.size + 1, j, none⟩ = qs[j]? := fun w' h j => cell_of_row _ _ j qs 52 (0, 0) ((h.block _ (by omega)).trans hk2)
  have HL1 := Lib.hid hL1
  have HRK := Lib.hid hRK
  have HHK := Lib.hid hk
  have HHG := Lib.hid hg
  clear hW0 hsz hk2 h hL1 hRK hk hg hc3 hc4
  obtain ⟨xid, xev, xfrm, xtil, xau, xtx, xdn, xlo⟩ := x
  simp only [Cm.enc] at hqs HKX
  simp only at HRK
  go_enter Tryz.func113, Tryz.ntmps113
  subst hqs
  go_upto_region 1 with fail
  rw [HW0.out]
  go_upto_if 14 with fail
  go_cut [0] (fun s0 wx => ∃ a1 c1, s0 = .slice a1 L1.length c1 ∧ SliceOf 8 Cm.enc Flat wx a1 L1 ∧ (gn = true → ∀ ad, a1 = some ad → w.heap.size ≤ ad.block) ∧ Below (w.heap.size + 2) W0 wx)
  case first =>
    cases ad with
    | true =>
      have HG := Lib.hid (HHG.out rfl)
      have hxl : L1 = xs := by rw [HL1.out]; rfl
      subst hxl
      go_wp2_with fail
      go_meet
      exact ⟨_, _, rfl, HSL.out _ (HB.out _ hb0), (fun h => by rw [HG.out] at h; cases h), hb0⟩
    | false =>
      obtain ⟨hkl, rfl⟩ := HHK.out rfl
      have hxl : L1 = dropAt xs k := by rw [HL1.out]; rfl
      have hdl : L1.length = xs.length - 1 := by rw [hxl]; exact dropAt_len xs k hkl
      have HC := Lib.hid (fun (w1 : World) (h : Below (w.heap.size + 2) W0 w1) => clone107_calls a cap xs w1 (HSL.out _ (HB.out _ h)) hl)
      go_wp2_with fail
      refine (HC.out _ hb0).mono ?_
      rintro e w1 ⟨v, rfl, ho, hb1⟩
      obtain ⟨g, cp, rfl, hgb⟩ := owned_some ho (by omega)
      have hc1 := HT0.out _ _ hb0 hb1
      have HD := Lib.hid (deleteCm_calls W0.heap.size g cp k xs w1 ho hkl hl)
      clear hb1 HC ho
      go_wp2_with fail
      refine HD.out.mono ?_
      rintro e w2 ⟨rfl, hS, hb2⟩
      have hc2 : Below (w.heap.size + 2) W0 w2 := hc1.trans (hb2.mono (by rw [HSZ.out]; exact Nat.le_refl _))
      have HS := Lib.hid hS
      clear hb2 HD hS
      go_wp2_with fail
      go_meet
      refine ⟨_, _, by rw [hdl], by rw [hxl]; exact HS.out, fun _ ad e => ?_, hc2⟩
      obtain rfl := Option.some.inj e
      have := HSZ.out
      simp only
      omega
  case rest =>
    obtain ⟨a1, c1, rfl, hS1, hf1, hbw⟩ := hcut
    have HS1 := Lib.hid (fun (w1 : World) (hb : Below wc.heap.size wc w1) => SliceOf.keeps Flat.keeps _ _ _ _ hb hS1)
    have HF1 := Lib.hid hf1
    have HBW := Lib.hid hbw
    clear HSL hS1 hf1
    cases gn with
    | true =>
      have HFIN := Lib.hid (HQ.out L1 a1 c1 wc rfl (HS1.out _ (Below.refl _ _)) (HF1.out rfl) (HB.out _ hbw))
      clear HQ HS1 HF1
      go_wp2_with fail
      exact HFIN.out
    | false =>
      clear HF1
      go_wp2_with fail
      go_loopw [11] (fun i wr => ∃ j : Nat, j ≤ L1.length ∧ i = .int .i64 j ∧ j + rankOf (fun y : Cm => decide (y.id < xid)) (L1.drop j) = RK ∧ Below wc.heap.size wc wr) (fun i _ => L1.length - (intOf i).toNat)
      case atStart => exact ⟨0, by omega, rfl, by rw [HRK.out]; simp, Below.refl _ _⟩
      case round =>
        obtain ⟨j, hj, rfl, hp, hb⟩ := hrel
        have hbW := HT0.out _ _ HBW.out hb
        have HBJ := Lib.hid hb
        have hbd : Below (w.heap.size + 2) W0 wr.drew := hbW.drew
        by_cases hlt : j < L1.length
        · obtain ⟨b, off, y, rfl, hbl, hyk, hc, _⟩ := (HS1.out _ hb).at_ hlt
          have HKY := Lib.hid (fun (w1 : World) => key42_calls y w1)
          rw [drop_at L1 j y hyk, rankOf] at hp
          have HCY := Lib.hid (fun (w1 : World) (h : Below wr.heap.size wr w1) (q : Nat) (u : Value) (e : y.enc[q]? = some u) => (h.cell (p := ⟨b, off + j * 8 + q, none⟩) hbl).trans (hc q u e))
          clear hc hyk hb
          obtain ⟨yid, yev, yfrm, ytil, yau, ytx, ydn, ylo⟩ := y
          simp only [Cm.enc] at HKY HCY
          simp only at hp

          have d0 := fun w1 h => HCY.out w1 h 0 _ rfl
          have d1 := fun w1 h => HCY.out w1 h 1 _ rfl
          have d2 := fun w1 h => HCY.out w1 h 2 _ rfl
          have d3 := fun w1 h => HCY.out w1 h 3 _ rfl
          have d4 := fun w1 h => HCY.out w1 h 4 _ rfl
          have d5 := fun w1 h => HCY.out w1 h 5 _ rfl
          have d6 := fun w1 h => HCY.out w1 h 6 _ rfl
          have d7 := fun w1 h => HCY.out w1 h 7 _ rfl
          simp only [Nat.add_zero] at d0
          have hrd : Below wr.heap.size wr wr.drew := (Below.refl _ _).drew
          have bx2 : ∀ (w' : World), Below wr.heap.size wr w' → ∀ (q : Nat), w'.cell? ⟨w.heap.size + 1, q, none⟩ = #[.int .i64 xid, .int .i64 xev, .int .i64 xfrm, .int .i64 xtil, .string xau, .string xtx, .bool xdn, .bool xlo][q]? := fun w' h q => bx w' (HT0.out _ _ hbW h) q
          clear HCY bx
          cases hlz : decide (yid < xid) with
          | true =>
            rw [if_pos hlz] at hp
            have HP := Lib.hid hp
            clear hp
            go_upto_region 6 with fail
            go_region_held3 (fun w' => Below wr.heap.size wr w') (first | with_reducible assumption | with_reducible exact hrd) (first
              | (go_at_call 42; first | ((with_reducible refine (HKY.out _).mono ?_); rintro e w1 ⟨rfl, hy1⟩; have hw1 : Below wr.heap.size wr w1 := hrd.trans (hy1.mono hrd.size)) | ((with_reducible refine (HKX.out _).mono ?_); rintro e w2 ⟨rfl, hy2⟩; have hw2 : Below wr.heap.size wr w2 := hw1.trans (hy2.mono hw1.size))))
            go_wp2_with fail
            go_roundw
            case rel => exact ⟨j + 1, by omega, by go_num, by have := HP.out; omega, HBJ.out.trans (hw2.mono HBJ.out.size)⟩
            all_goals first | (simp [intOf]; done) | (simp [intOf]; omega)
          | false =>
            rw [if_neg (by rw [hlz]; decide)] at hp
            obtain rfl : j = RK := by omega
            clear hp
            go_upto_region 6 with fail
            go_region_held3 (fun w' => Below wr.heap.size wr w') (first | with_reducible assumption | with_reducible exact hrd) (first
              | (go_at_call 42; first | ((with_reducible refine (HKY.out _).mono ?_); rintro e w1 ⟨rfl, hy1⟩; have hw1 : Below wr.heap.size wr w1 := hrd.trans (hy1.mono hrd.size)) | ((with_reducible refine (HKX.out _).mono ?_); rintro e w2 ⟨rfl, hy2⟩; have hw2 : Below wr.heap.size wr w2 := hw1.trans (hy2.mono hw1.size))))
            have hbz := HT0.out _ _ hbW hw2
            have HBZ := Lib.hid (HBJ.out.trans (hw2.mono HBJ.out.size))
            have hwz : Below wr.heap.size wr w2 := hw2
            clear hw1 hw2 hy1 hy2
            have HCL := Lib.hid (fun (w1 : World) (h : Below w2.heap.size w2 w1) => clone107_calls _ c1 L1 w1 (HS1.out _ (HBZ.out.trans (h.mono HBZ.out.size))) hL1l)
            have hzd : Below w2.heap.size w2 w2.drew := (Below.refl _ _).drew
            have hza : ∀ o, Below w2.heap.size w2 (w2.drew.alloc o) := fun o => hzd.alloc hzd.size o
            have bx3 : ∀ (w' : World), Below w2.heap.size w2 w' → ∀ (q : Nat), w'.cell? ⟨w.heap.size + 1, q, none⟩ = #[.int .i64 xid, .int .i64 xev, .int .i64 xfrm, .int .i64 xtil, .string xau, .string xtx, .bool xdn, .bool xlo][q]? := fun w' h q => bx2 w' (hwz.trans (h.mono hwz.size)) q
            have HBX := Lib.hid (heap_alloc_last w2.drew (.cells #[.int .i64 xid, .int .i64 xev, .int .i64 xfrm, .int .i64 xtil, .string xau, .string xtx, .bool xdn, .bool xlo] 52))
            go_upto_region 8 with fail
            go_region_held3 (fun w' => Below w2.heap.size w2 w') (first | with_reducible assumption | with_reducible exact hzd | exact hza _ | exact h6.alloc h6.size _ | fail) (first
              | (go_at_call 107; (with_reducible refine (HCL.out _ ?_).mono ?_); assumption; rintro e w6 ⟨v6, rfl, ho6, hb6⟩; have h6 : Below w2.heap.size w2 w6 := (by assumption : Below w2.heap.size w2 _).trans (hb6.mono (by first | exact hzd.size | exact (hza _).size)); have HI2 := Lib.hid (insertCm_calls w2.heap.size v6 L1 j (⟨xid, xev, xfrm, xtil, xau, xtx, xdn, xlo⟩ : Cm) w6.heap.size 1 (w6.alloc (.cells #[.int .i64 xid, .int .i64 xev, .int .i64 xfrm, .int .i64 xtil, .string xau, .string xtx, .bool xdn, .bool xlo] 52)) ((owns_mono ho6 (by first | exact hzd.size | exact (hza _).size)).alloc _) (heap_alloc_last w6 _) (fun e => by have := (ho6.lt _ e).2; omega) (by omega) (by omega) (h6.alloc h6.size _).size); (first | (have HI1 := Lib.hid (insertCm_calls w2.heap.size v6 L1 j (⟨xid, xev, xfrm, xtil, xau, xtx, xdn, xlo⟩ : Cm) w2.heap.size 1 w6 (owns_mono ho6 (hza _).size) ((hb6.block w2.heap.size (by simp)).trans HBX.out) (fun e => by have := (ho6.lt _ e).1; simp at this; omega) (by omega) (by omega) h6.size)) | skip); clear ho6 hb6)
              | (go_at_call 190; (first | ((with_reducible refine HI2.out.mono ?_); rintro e w8 ⟨a8, c8, rfl, hS8, hf8, hb8⟩; have h8 : Below w2.heap.size w2 w8 := (h6.alloc h6.size _).trans hb8) | ((with_reducible refine HI1.out.mono ?_); rintro e w8 ⟨a8, c8, rfl, hS8, hf8, hb8⟩; have h8 : Below w2.heap.size w2 w8 := h6.trans hb8)); have HS8 := Lib.hid hS8; have HF8 := Lib.hid hf8; clear hS8 hf8 hb8))
            all_goals
              have HFIN := Lib.hid (HQ.out (insAt L1 j (⟨xid, xev, xfrm, xtil, xau, xtx, xdn, xlo⟩ : Cm)) a8 c8 w8 (by rfl) HS8.out (fun ad e => Nat.le_trans (by have := HLT.out _ hbz; omega) (HF8.out ad e)) (HB.out _ (HT0.out _ _ hbz h8)))
              clear HQ HS8 HF8
              go_wp2_with fail
              exact HFIN.out

        · obtain rfl : j = L1.length := by omega
          rw [List.drop_length, rankOf] at hp
          obtain rfl : L1.length = RK := by omega
          clear hp
          have hkd : decide (((L1.length : Nat) : Int) < ((L1.length : Nat) : Int)) = false := by simp
          go_upto_region 6 with fail
          have HWN := Lib.hid (fun n => below_drewN hbW n)
          have HJN := Lib.hid (fun n => below_drewN HBJ.out n)
          go_quiet (fail)
          go_wp2_with fail
          generalize hwq : World.drewN wr _ = wq
          have hbz : Below (w.heap.size + 2) W0 wq := hwq ▸ HWN.out _
          have HBZ := Lib.hid (show Below wc.heap.size wc wq from hwq ▸ HJN.out _)
          clear hbW hbd HBJ hwq
          have HCL := Lib.hid (fun (w1 : World) (h : Below wq.heap.size wq w1) => clone107_calls _ c1 L1 w1 (HS1.out _ (HBZ.out.trans (h.mono HBZ.out.size))) hL1l)
          have hzd : Below wq.heap.size wq wq.drew := (Below.refl _ _).drew
          have hza : ∀ o, Below wq.heap.size wq (wq.drew.alloc o) := fun o => hzd.alloc hzd.size o
          have bx3 : ∀ (w' : World), Below wq.heap.size wq w' → ∀ (q : Nat), w'.cell? ⟨w.heap.size + 1, q, none⟩ = #[.int .i64 xid, .int .i64 xev, .int .i64 xfrm, .int .i64 xtil, .string xau, .string xtx, .bool xdn, .bool xlo][q]? := fun w' h q => bx w' (HT0.out _ _ hbz h) q
          have HBX := Lib.hid (heap_alloc_last wq.drew (.cells #[.int .i64 xid, .int .i64 xev, .int .i64 xfrm, .int .i64 xtil, .string xau, .string xtx, .bool xdn, .bool xlo] 52))
          go_upto_region 8 with fail
          go_region_held3 (fun w' => Below wq.heap.size wq w') (first | with_reducible assumption | with_reducible exact hzd | exact hza _ | exact h6.alloc h6.size _ | fail) (first
            | (go_at_call 107; (with_reducible refine (HCL.out _ ?_).mono ?_); assumption; rintro e w6 ⟨v6, rfl, ho6, hb6⟩; have h6 : Below wq.heap.size wq w6 := (by assumption : Below wq.heap.size wq _).trans (hb6.mono (by first | exact hzd.size | exact (hza _).size)); have HI2 := Lib.hid (insertCm_calls wq.heap.size v6 L1 L1.length (⟨xid, xev, xfrm, xtil, xau, xtx, xdn, xlo⟩ : Cm) w6.heap.size 1 (w6.alloc (.cells #[.int .i64 xid, .int .i64 xev, .int .i64 xfrm, .int .i64 xtil, .string xau, .string xtx, .bool xdn, .bool xlo] 52)) ((owns_mono ho6 (by first | exact hzd.size | exact (hza _).size)).alloc _) (heap_alloc_last w6 _) (fun e => by have := (ho6.lt _ e).2; omega) (by omega) (by omega) (h6.alloc h6.size _).size); (first | (have HI1 := Lib.hid (insertCm_calls wq.heap.size v6 L1 L1.length (⟨xid, xev, xfrm, xtil, xau, xtx, xdn, xlo⟩ : Cm) wq.heap.size 1 w6 (owns_mono ho6 (hza _).size) ((hb6.block wq.heap.size (by simp)).trans HBX.out) (fun e => by have := (ho6.lt _ e).1; simp at this; omega) (by omega) (by omega) h6.size)) | skip); clear ho6 hb6)
            | (go_at_call 190; (first | ((with_reducible refine HI2.out.mono ?_); rintro e w8 ⟨a8, c8, rfl, hS8, hf8, hb8⟩; have h8 : Below wq.heap.size wq w8 := (h6.alloc h6.size _).trans hb8) | ((with_reducible refine HI1.out.mono ?_); rintro e w8 ⟨a8, c8, rfl, hS8, hf8, hb8⟩; have h8 : Below wq.heap.size wq w8 := h6.trans hb8)); have HS8 := Lib.hid hS8; have HF8 := Lib.hid hf8; clear hS8 hf8 hb8))
          all_goals
            have HFIN := Lib.hid (HQ.out (insAt L1 L1.length (⟨xid, xev, xfrm, xtil, xau, xtx, xdn, xlo⟩ : Cm)) a8 c8 w8 (by rfl) HS8.out (fun ad e => Nat.le_trans (by have := HLT.out _ hbz; omega) (HF8.out ad e)) (HB.out _ (HT0.out _ _ hbz h8)))
            clear HQ HS8 HF8
            go_wp2_with fail
            exact HFIN.out
end Go.Proofs.YtnlnmbcaongehaaGreatDoor
