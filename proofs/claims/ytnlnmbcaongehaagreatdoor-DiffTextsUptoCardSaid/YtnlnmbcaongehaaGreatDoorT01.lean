/- In a round of a range over a function: what was walked as in any other body holds there too, where there is no 'defer'. slices.Backward over changes: the contract of its iterator. Laws of a round of Invert: the halves of a change change places (the program's and the reference's). (printed by gen_invert.py) Behind a false test of a row of tests ('a && b && ..') every other operation is not wanted, or hands 'false' on. -/
import Derived.RangeFuncNested
import Derived.RangeFuncCalls
import Derived.Deep.RegionHeld
import Derived.TacticsIn
import Derived.OrdersIn
import Derived.Deep.MidRow
import Derived.RangeFuncBox
import Derived.RangeFuncLeaves
import Derived.Shelf.Abstract
import Derived.WalkKit
import Derived.OwnWalkIn
import Derived.TacticsInMore
import Derived.LoopNIn
import Derived.LoopIn
import Derived.BigFrame
import Derived.Test.YtnlnmbcaongehaaGreatDoorBase06
import Derived.Test.YtnlnmbcaongehaaGreatDoorT00
import Derived.Test.YtnlnmbcaongehaaGreatDoorBase16
import Derived.Test.YtnlnmbcaongehaaGreatDoorBase12
import Derived.Test.YtnlnmbcaongehaaGreatDoorBase10
import Derived.Test.YtnlnmbcaongehaaGreatDoorBase04
import Derived.Test.YtnlnmbcaongehaaGreatDoorBase02
import Derived.Test.YtnlnmbcaongehaaGreatDoorBase01
import Derived.Test.YtnlnmbcaongehaaGreatDoorBase00
import Derived.Test.YtnlnmbcaongehaaGreatDoorBase03
import Derived.Test.YtnlnmbcaongehaaGreatDoorBase11
import Derived.Test.YtnlnmbcaongehaaGreatDoorBase15
import Derived.Test.YtnlnmbcaongehaaGreatDoorBase14
import Derived.Test.YtnlnmbcaongehaaGreatDoorBase13
import Derived.Test.YtnlnmbcaongehaaGreatDoorBase05
set_option linter.unusedVariables false
set_option linter.unusedSimpArgs false
namespace Go.Proofs.YtnlnmbcaongehaaGreatDoor
variable {P : Program} {ops : Array Oper} {Q : Exit → Act → World → Prop} {l n : Nat}
theorem rowsIn_round {row : String} {args : Array Value} {w : World} {R : Value → World → Prop} (h : Rows P row args w R) : RowsIn (Fence.wide.inRound l) n P row args w R :=
  fun c cs _ => let ⟨v, w', r, s⟩ := h c cs; ⟨v, w', r, stepsIn_wide.2 s⟩
theorem opIn_of_wp {o : Oper} {a : Act} {w : World} {K : Act → World → Prop} (hd : ∀ c, o.op ≠ .defer c) (h : o.wp P a w K Q) : o.wpIn (Fence.wide.inRound l) n P a w K Q := by
  unfold Oper.wpIn
  refine ⟨fun _ _ => trivial, ?_⟩
  rw [show (Fence.wide.inRound l).round = some l from rfl, Oper.semAt_some l a.eval o hd]
  unfold Oper.wp at h
  generalize (execOp a.eval o).run P w = r at *
  cases r with
  | ok x w' =>
    cases x <;> first
      | exact h
      | exact h.elim
      | exact ⟨fun h => (by cases h), CallsIn.inRound l (callsIn_wide.2 (Calls.mono h (fun e w'' he => by cases e <;> exact he)))⟩
      | exact ⟨fun h => (by cases h), rowsIn_round h⟩
  | halt x w' => cases x <;> first | exact h | exact h.elim
theorem listIn_of_wp (hQ : ¬ LetsOut Q) : ∀ (os : List Oper) (a : Act) (w : World), (∀ o ∈ os, ∀ c, o.op ≠ .defer c) → wpList P ops Q os a w → wpListIn (Fence.wide.inRound l) n P ops Q os a w
  | [], a, w, _, h => h
  | o :: os, a, w, hd, h => by
    have ih := fun a w => listIn_of_wp hQ os a w (fun x hx => hd x (List.mem_cons_of_mem _ hx))
    unfold wpList at h
    unfold wpListIn
    split
    · rename_i hw
      rw [if_pos hw] at h
      rcases h with h | ⟨_, h⟩
      · exact opIn_of_wp (hd o List.mem_cons_self) (Oper.wp_mono ih h)
      · exact absurd h hQ
    · rename_i hw
      rw [if_neg hw] at h
      exact ⟨fun _ _ => trivial, ih _ _ h⟩
theorem anyIn_of_wp (hQ : ¬ LetsOut Q) {md : Region.Mode} (hd : ∀ o ∈ ops.toList, ∀ c, o.op ≠ .defer c) : ∀ (fuel : Nat) (listed : Array Bool) (a : Act) (w : World), wpAny P md ops Q fuel listed a w → wpAnyIn (Fence.wide.inRound l) n P md ops Q fuel listed a w
  | 0, listed, a, w, h => h
  | fuel + 1, listed, a, w, h => by
    refine ⟨h.1, fun i hi => ?_⟩
    have h2 := h.2 i hi
    have ih := anyIn_of_wp (md := md) hQ hd fuel (listed.setIfInBounds i true)
    unfold wpOp at h2
    unfold wpOpIn
    split
    · rename_i ho
      simp only [ho] at h2
      exact ih _ _ h2
    · rename_i o ho
      simp only [ho] at h2
      have hm : o ∈ ops.toList := by
        obtain ⟨h3, rfl⟩ := Array.getElem?_eq_some_iff.1 ho
        exact Array.getElem_mem_toList h3
      split
      · rename_i hw
        rw [if_pos hw] at h2
        rcases h2 with h2 | ⟨_, h2⟩
        · exact opIn_of_wp (hd o hm) (Oper.wp_mono ih h2)
        · exact absurd h2 hQ
      · rename_i hw
        rw [if_neg hw] at h2
        exact ⟨fun _ _ => trivial, ih _ _ h2⟩
/-- No operation of a list is a 'defer' statement. -/
def noDefer (os : List Oper) : Bool := os.all fun o => match o.op with | .defer _ => false | _ => true
theorem noDefer_spec {os : List Oper} (h : noDefer os = true) : ∀ o ∈ os, ∀ c, o.op ≠ .defer c := by
  intro o ho c e
  have := List.all_eq_true.1 h o ho
  simp only [e] at this
  cases this
theorem Exit.then_lets {K : Act → World → Prop} (hQ : ¬ LetsOut Q) : ¬ LetsOut (Exit.then K Q) := fun ⟨a, w, h⟩ => hQ ⟨a, w, h⟩
/-- A plain region in a round. -/
theorem roundRegion {id : Nat} {os : List Oper} {a : Act} {w : World} (hQ : ¬ LetsOut Q) (hd : noDefer os = true) (hl : wpList P os.toArray Q os a w) : (Code.region id os.toArray false).wpIn (Fence.wide.inRound l) n P Q a w :=
  wpIn_region_lit (listIn_of_wp hQ os a w (noDefer_spec hd) hl)
/-- A region that draws its order, in a round. -/
theorem roundDrawn {id : Nat} {a : Act} {w : World} {S : World → Prop} (hm : P.follows .mixedOrders = true) (hQ : ¬ LetsOut Q) (hd : noDefer ops.toList = true)
    (h : wpAnyH P .any ops Q S ops.size (Array.replicate ops.size false) a w.drew) : (Code.region id ops true).wpIn (Fence.wide.inRound l) n P Q a w :=
  wpIn_region_any hm (anyIn_of_wp hQ (noDefer_spec hd) _ _ _ _ (wpAny_of_held _ _ _ _ h))
/-- A struct is read out of the middle of a block, in a round or an iterator. -/
theorem wpListIn_load_mid {F : Fence} {rest : List Oper} {op : Oper} {a : Act} {w : World} (hgd : op.guard = none) (ty : TypeId) (x : Operand) (ho : op.op = .load ty x)
    (b o : Nat) (hx : a.eval x = .pointer (some ⟨b, o, none⟩)) (cs : List Value) (d : TypeDesc) (hc : w.rangeAt b o cs)
    (hu : P.underlying ty = some d) (hd : d.isRow = true) (hi : (P.info? ty).map (·.size) = some cs.length)
    (h : wpListIn F n P ops Q rest (a.put op.dst (.agg cs.toArray)) w) : wpListIn F n P ops Q (op :: rest) a w :=
  wpListIn_plain hgd fun _ hK => by
    unfold Oper.wpIn
    refine ⟨fun f hf => by simp [Oper.about, ho] at hf, ?_⟩
    rw [Oper.semAt_eq _ _ _ (fun c e => by rw [ho] at e; cases e)]
    unfold execOp
    simp only [ho, hx, Instr.loadAt, Instr.sureAddr, Sem.run_bind, Sem.run_pure, Result.andThen_ok, run_loadVar_mid w b o ty cs d hc hu hd hi]
    exact hK _ _ h
end Go.Proofs.YtnlnmbcaongehaaGreatDoor
namespace Go.Proofs.YtnlnmbcaongehaaGreatDoor
open Go.RowKit Go.Shelf
attribute [local go_sem] Oper.semAt_some
/-- What comes: an index and a change of the list. -/
abbrev BackEl (xs : List Chg) := { p : Int × Chg // p.2 ∈ xs }
def BackEl.encs {xs : List Chg} (x : BackEl xs) : Array Value := #[.int .i64 x.1.1, .agg x.1.2.enc.toArray]
theorem rev_take (xs : List Chg) (j : Nat) (x : Chg) (h : xs[j]? = some x) : xs.reverse.take (xs.length - j) = xs.reverse.take (xs.length - (j + 1)) ++ [x] := by
  have hj : j < xs.length := (List.getElem?_eq_some_iff.1 h).1
  rw [show xs.length - j = xs.length - (j + 1) + 1 by omega, List.take_add_one, List.getElem?_reverse (by omega), show xs.length - 1 - (xs.length - (j + 1)) = j by omega, h]
  rfl
set_option maxRecDepth 100000 in
set_option maxHeartbeats 3200000 in
theorem back1_in (F : Fence) (n : Nat) (h7 : F.fn 118) (hro : F.round = none) (hn : 1 ≤ n) (l Bs cap : Nat) (a : Option Addr) (xs : List Chg) (w : World) (hx : SliceOf 59 Chg.enc Chg.lies w a xs) (hl : xs.length ≤ 40000000) (Kp : World → World → Prop) (hKB : ∀ A B, Kp A B → Below w.heap.size A B) (hKt : ∀ A B C, Kp A B → Kp B C → Kp A C) (hKr : ∀ A, Kp A A) (J Jx : List (BackEl xs) → World → Prop)
    (hY : ∀ pre x W, J pre W → pre.length < xs.length → YieldAt F (n - 1) Tryz.prog l (BackEl.encs x) W fun e W' =>
      (e = .returned (.bool true) ∧ J (pre ++ [x]) W' ∧ Kp W W') ∨ (e = .returned (.bool false) ∧ Jx (pre ++ [x]) W'))
    (W : World) (hW : Below w.heap.size w W) (hBs : ∀ W', Kp W W' → W'.cell? ⟨Bs, 0, none⟩ = some (.slice a xs.length cap)) (h0 : J [] W) :
    CallsIn F n Tryz.prog 118 #[.func (.yield l) #[] #[], .pointer (some ⟨Bs, 0, none⟩)] W fun e W' => (∃ v, e = .returned v) ∧
      ((∃ ys : List (BackEl xs), ys.map (fun p => p.1.2) = xs.reverse ∧ J ys W') ∨ (∃ pre : List (BackEl xs), True ∧ Jx pre W')) := by
  have hB0 := hBs W (hKr _)
  have HX := Lib.hid (fun (w1 : World) (h : Kp W w1) => SliceOf.keeps Chg.keeps _ _ _ _ (hW.trans (hKB _ _ h)) hx)
  have HBS := Lib.hid hBs
  have HY := Lib.hid hY
  have H0 := Lib.hid h0
  have HKT := Lib.hid hKt
  have HKR := Lib.hid (hKr W)
  clear hY hx h0 hBs hKB hKt hKr
  refine callsIn_of_wp Tryz.func118 rfl h7 ?_ hro
  simp only [Tryz.ntmps118, List.size_toArray, List.length_cons, List.length_nil, Nat.reduceAdd, Nat.reduceSub, Array.replicate_succ, Array.replicate_zero, List.push_toArray, List.append_toArray, List.nil_append, List.cons_append]
  gi_wp2
  gi_loopw [3] (fun i wr => ∃ (m : Nat) (pre : List (BackEl xs)), m ≤ xs.length ∧ i = .int .i64 ((m : Int) - 1) ∧ pre.map (fun p => p.1.2) = xs.reverse.take (xs.length - m) ∧ J pre wr ∧ Kp W wr)
    (fun i _ => (intOf i + 1).toNat)
  case atStart => exact ⟨xs.length, [], Nat.le_refl _, by go_num, by simp, H0.out, HKR.out⟩
  case round =>
    obtain ⟨m, pre, hm, rfl, hpre, hJ, hb⟩ := hrel
    have hbs := HBS.out wr hb
    cases m with
    | zero =>
      have HE := Lib.hid (show ∃ ys : List (BackEl xs), ys.map (fun p => p.1.2) = xs.reverse ∧ J ys wr from ⟨pre, by rw [hpre, Nat.sub_zero, ← List.length_reverse, List.take_length], hJ⟩)
      clear hpre hJ
      gi_wp2
      go_end0
      exact ⟨⟨_, rfl⟩, .inl HE.out⟩
    | succ j =>
      rw [show (((j + 1 : Nat) : Int) - 1) = (j : Int) by omega]
      obtain ⟨b, off, x, rfl, hbl, hxj, hc, hxl⟩ := (HX.out wr hb).at_ (show j < xs.length by omega)
      have hlen : pre.length < xs.length := by
        have := congrArg List.length hpre
        simp only [List.length_map, List.length_take, List.length_reverse] at this
        omega
      obtain ⟨fn, tmps, assign, body, hy, hR⟩ := HY.out pre ⟨((j : Int), x), List.mem_of_getElem? hxj⟩ wr hJ hlen
      have hsz : (Tryz.prog.info? 54).map (·.size) = some x.enc.length := by rw [show (Tryz.prog.info? 54).map (·.size) = some 59 from by kernel_rfl, Chg.len]
      have HSZ := Lib.hid hsz
      have HRG := Lib.hid (show wr.rangeAt b (off + j * 59) x.enc from fun q v e => hc q v e)
      have HREL := Lib.hid (show (pre ++ [(⟨((j : Int), x), List.mem_of_getElem? hxj⟩ : BackEl xs)]).map (fun p => p.1.2) = xs.reverse.take (xs.length - j) from by
        rw [List.map_append, hpre, rev_take xs j x hxj]; rfl)
      have HBT := Lib.hid (fun (w5 : World) (h : Kp wr w5) => HKT.out _ _ _ hb h)
      simp only [BackEl.encs] at hy
      generalize x.enc = xe at *
      have hj0 : ((j : Int) ≥ 0) = True := by simp
      clear hsz hc hpre hJ
      gi_wp2_with (refine wpListIn_load_mid rfl 54 (.tmp 15) rfl b (off + j * 59) rfl xe _ HRG.out Tryz.underlying54 rfl HSZ.out ?_)
      refine hR.mono ?_
      rintro e W3 (⟨rfl, hJ3, hk3⟩ | ⟨rfl, hJx3⟩)
      · gi_wp2
        go_roundw
        case rel => exact ⟨j, _, by omega, by go_num, HREL.out, hJ3, HBT.out _ hk3⟩
        case measure => first | (simp [intOf]; done) | (simp [intOf]; omega)
      · gi_wp2
        refine bodyPost_ret (results_none rfl _ _ _) rfl ?_
        exact ⟨⟨_, rfl⟩, .inr ⟨_, trivial, hJx3⟩⟩
set_option maxRecDepth 100000 in
set_option maxHeartbeats 1000000 in
/-- slices.Backward: the slice is boxed; the function value captures the box. -/
theorem back_in (F : Fence) (n : Nat) (h5 : F.fn 58) (hro : F.round = none) (a : Option Addr) (len cap : Nat) (w : World) :
    CallsIn F n Tryz.prog 58 #[.slice a len cap] w fun e w' => e = .returned (.func (.func 118) #[] #[.pointer (some ⟨w.heap.size, 0, none⟩)]) ∧ w' = w.alloc (.cells #[.slice a len cap] 29) := by
  refine callsIn_of_wp Tryz.func58 rfl h5 ?_ hro
  simp only [Tryz.ntmps58, List.size_toArray, List.length_cons, List.length_nil, Nat.reduceAdd, Nat.reduceSub, Array.replicate_succ, Array.replicate_zero, List.push_toArray, List.append_toArray, List.nil_append, List.cons_append]
  gi_wp2
  go_ret
  exact ⟨rfl, rfl⟩
/-- What a round must keep: what lay, and the box of the slice. -/
def BackKp (n₀ Bs : Nat) (A B : World) : Prop := Below n₀ A B ∧ ∀ v, Boxed A Bs 29 v → Boxed B Bs 29 v
theorem BackKp.t {n₀ Bs : Nat} {A B C : World} (h : BackKp n₀ Bs A B) (k : BackKp n₀ Bs B C) : BackKp n₀ Bs A C := ⟨h.1.trans k.1, fun v hv => k.2 v (h.2 v hv)⟩
theorem BackKp.r (n₀ Bs : Nat) (A : World) : BackKp n₀ Bs A A := ⟨Below.refl _ _, fun _ h => h⟩
theorem BackKp.b {n₀ Bs : Nat} {w : World} (hn : n₀ ≤ w.heap.size) (hB : Bs < w.heap.size) (W : World) (l : Nat) (o o' : Obj) (hl : w.heap.size ≤ l) (h : W.heap[l]? = some o) (hc : o.isCells = false) (hw : o.isWalk = false) : BackKp n₀ Bs W (W.putObj l o') :=
  ⟨belowK_b hn W l o o' hl h hc hw, fun v hv => (World.putObj_heap_other (by omega)).trans hv⟩
/-- The function value that slices.Backward hands back: every element, from the last one to the first one. -/
theorem back_stops (F : Fence) (n : Nat) (h7 : F.fn 118) (hro : F.round = none) (hn : 1 ≤ n) (Bs cap : Nat) (a : Option Addr) (xs : List Chg) (w w1 : World) (hx : SliceOf 59 Chg.enc Chg.lies w a xs) (hl : xs.length ≤ 40000000) (hw : Below w.heap.size w w1) (hB : Boxed w1 Bs 29 (.slice a xs.length cap)) :
    SeqStopsK F n Tryz.prog 118 #[.pointer (some ⟨Bs, 0, none⟩)] (BackEl.encs (xs := xs)) (BackKp w.heap.size Bs) (fun ys => ys.map (fun p => p.1.2) = xs.reverse) (fun _ => True) xs.length w1 := fun l J Jx W hW _ _ hY h0 =>
  back1_in F n h7 hro hn l Bs cap a xs w hx hl (BackKp w.heap.size Bs) (fun _ _ h => h.1) (fun _ _ _ h k => h.t k) (BackKp.r _ _) J Jx hY W (hw.trans (hW.mono hw.size)) (fun W' h => (h.2 _ ((hW.block Bs hB.lt).trans hB)).cell) h0
end Go.Proofs.YtnlnmbcaongehaaGreatDoor
namespace Go.Proofs.YtnlnmbcaongehaaGreatDoor
open Go.RowKit
/-- A row stored into the middle of a block. -/
theorem wpList_store_seg {P : Program} {ops : Array Oper} {rest : List Oper} {op : Oper} {a : Act} {w : World} {Q : Exit → Act → World → Prop} (hgd : op.guard = none) (ty : TypeId) (x y : Operand) (ho : op.op = .store ty x y)
    (g o : Nat) (Y : List Value) (hx : a.eval x = .pointer (some ⟨g, o, none⟩)) (hy : a.eval y = .agg Y.toArray) (A X S : List Value) (t : TypeId) (hg : w.heap[g]? = some (.cells (A ++ (X ++ S)).toArray t (0, 0)))
    (hA : A.length = o) (hl : Y.length = X.length) (hi : (P.info? ty).map (·.size) = some Y.length) (h1 : ∀ v ∈ Y, v.oneCell' = true)
    (h : wpList P ops Q rest (a.put op.dst undef) (w.setRow g (A ++ (Y ++ S)).toArray)) : wpList P ops Q (op :: rest) a w := by
  refine wpList_plain hgd fun _ hK => ?_
  unfold Oper.wp execOp
  have hs := run_storeCells_at P g o t Y 0 (A ++ (X ++ S)).toArray w hg (by simp; omega) h1
  have e : ((A ++ (X ++ S)).take (o + 0) ++ Y ++ (A ++ (X ++ S)).drop (o + 0 + Y.length)) = A ++ (Y ++ S) := by
    rw [Nat.add_zero, ← hA, List.take_left', List.drop_append, List.drop_eq_nil_of_le (by omega), List.nil_append, show A.length + Y.length - A.length = X.length by omega, List.drop_left', List.append_assoc]
    · rfl
    · rfl
  simp only [] at hs
  rw [e] at hs
  cases hq : P.info? ty with
  | none => simp [hq] at hi
  | some i =>
    have hz : Y.length = i.size := by simp [hq] at hi; omega
    have hst : (storeVar ty ⟨g, o, none⟩ (.agg Y.toArray)).run P w = .ok () (w.setRow g (A ++ (Y ++ S)).toArray) := by
      simp [storeVar, sizeOf, typeInfo, hq, Value.cells, hz, hs]
    simp only [ho, hx, hy, Instr.storeAt, Instr.sureAddr, Sem.run_bind, Sem.run_pure, Result.andThen_ok, hst]
    exact hK _ _ h
theorem wp_store_seg {P : Program} {op : Oper} {a : Act} {w : World} {K : Act → World → Prop} {Q : Exit → Act → World → Prop} (ty : TypeId) (x y : Operand) (ho : op.op = .store ty x y)
    (g o : Nat) (Y : List Value) (hx : a.eval x = .pointer (some ⟨g, o, none⟩)) (hy : a.eval y = .agg Y.toArray) (A X S : List Value) (t : TypeId) (hg : w.heap[g]? = some (.cells (A ++ (X ++ S)).toArray t (0, 0)))
    (hA : A.length = o) (hl : Y.length = X.length) (hi : (P.info? ty).map (·.size) = some Y.length) (h1 : ∀ v ∈ Y, v.oneCell' = true)
    (h : K (a.put op.dst undef) (w.setRow g (A ++ (Y ++ S)).toArray)) : op.wp P a w K Q := by
  unfold Oper.wp execOp
  have hs := run_storeCells_at P g o t Y 0 (A ++ (X ++ S)).toArray w hg (by simp; omega) h1
  have e : ((A ++ (X ++ S)).take (o + 0) ++ Y ++ (A ++ (X ++ S)).drop (o + 0 + Y.length)) = A ++ (Y ++ S) := by
    rw [Nat.add_zero, ← hA, List.take_left', List.drop_append, List.drop_eq_nil_of_le (by omega), List.nil_append, show A.length + Y.length - A.length = X.length by omega, List.drop_left', List.append_assoc]
    · rfl
    · rfl
  simp only [] at hs
  rw [e] at hs
  cases hq : P.info? ty with
  | none => simp [hq] at hi
  | some i =>
    have hz : Y.length = i.size := by simp [hq] at hi; omega
    have hst : (storeVar ty ⟨g, o, none⟩ (.agg Y.toArray)).run P w = .ok () (w.setRow g (A ++ (Y ++ S)).toArray) := by
      simp [storeVar, sizeOf, typeInfo, hq, Value.cells, hz, hs]
    simp only [ho, hx, hy, Instr.storeAt, Instr.sureAddr, Sem.run_bind, Sem.run_pure, Result.andThen_ok, hst]
    exact h
theorem range_seg {w : World} {g o : Nat} {A X S : List Value} {t : TypeId} (hg : w.heap[g]? = some (.cells (A ++ (X ++ S)).toArray t (0, 0))) (hA : A.length = o) : w.rangeAt g o X := fun j v hv => by
  have hj : j < X.length := (List.getElem?_eq_some_iff.1 hv).1
  rw [cell_of_row _ _ (o + j) _ t (0, 0) hg, List.getElem?_toArray, List.getElem?_append_right (by omega), show o + j - A.length = j by omega, List.getElem?_append_left hj]
  exact hv
theorem aside_row (w : World) (g : Nat) (cs : Array Value) : Aside w g (w.setRow g cs) := fun b _ h => by
  unfold World.setRow
  show (w.heap.modify g _)[b]? = w.heap[b]?
  rw [Array.getElem?_modify, if_neg (fun e => h e.symm)]
theorem size_row (w : World) (g : Nat) (cs : Array Value) : (w.setRow g cs).heap.size = w.heap.size := by unfold World.setRow; simp
theorem Aside.trans {w w1 w2 : World} {g : Nat} (h : Aside w g w1) (hs : w.heap.size ≤ w1.heap.size) (h2 : Aside w1 g w2) : Aside w g w2 := fun b hb hn => (h2 b (by omega) hn).trans (h b hb hn)
theorem grown_row (w : World) (g : Nat) (cs : Array Value) : w.grownBy (w.setRow g cs) (some g) := ⟨rfl, rfl, rfl, by rw [size_row]; exact Nat.le_refl _, fun k hk hn => aside_row w g cs k hk (fun e => hn (by rw [e]))⟩
theorem grown_trans {a b c : World} {r : Option Nat} (h : a.grownBy b r) (k : b.grownBy c r) : a.grownBy c r := ⟨k.os.trans h.os, k.tape.trans h.tape, k.output.trans h.output, Nat.le_trans h.size k.size, fun i hi hn => (k.block i (Nat.lt_of_lt_of_le hi h.size) hn).trans (h.block i hi hn)⟩
theorem grown_below {a b : World} {r : Option Nat} (h : Below a.heap.size a b) : a.grownBy b r := ⟨h.os, h.tape, h.output, h.size, fun k hk _ => h.block k hk⟩
theorem Aside.of {w w' : World} {g : Nat} (h : w.grownBy w' (some g)) : Aside w g w' := fun b hb hn => h.block b hb (fun e => hn (Option.some.inj e))
/-- The operations of a region of a function. -/
def opsAt (n : Nat) : Code → Option (Array Oper)
  | .region id ops _ => if id = n then some ops else none
  | .seq a b => (opsAt n a).orElse fun _ => opsAt n b
  | .block _ c => opsAt n c
  | .loop c => opsAt n c
  | .cond _ a b => (opsAt n a).orElse fun _ => opsAt n b
  | .rangeFunc _ _ a b => (opsAt n a).orElse fun _ => opsAt n b
  | _ => none
def fnOps (f : Func) (n : Nat) : Array Oper := (opsAt n (f.body.getD .skip)).getD #[]
set_option maxRecDepth 100000 in
set_option maxHeartbeats 3200000 in
theorem flags_p {Q : Exit → Act → World → Prop} (g : Nat) (c0 c1 c2 : Value) (ad gn : Bool) (R : List Value) (w : World) (hg : w.heap[g]? = some (.cells (c0 :: c1 :: c2 :: .bool ad :: .bool gn :: R).toArray 54 (0, 0))) (ds : List Deferred) (s0 s1 s2 s3 s4 s6 s7 s8 s9 s10 s11 s12 s13 s14 s15 s16 s17 s18 s19 s20 s21 s22 s23 s24 s25 s26 s27 s28 s29 s30 s31 s32 s33 s34 s35 s36 s37 s38 s39 s40 s41 s42 s43 s44 s45 s46 : Value)
    (h : ∀ (w' : World) (y0 y1 y2 y3 y4 y5 : Value), w'.heap[g]? = some (.cells (c0 :: c1 :: c2 :: .bool gn :: .bool ad :: R).toArray 54 (0, 0)) → w.grownBy w' (some g) → w'.heap.size = w.heap.size → Q .normal { tmps := #[s0, s1, s2, s3, s4, .pointer (some ⟨g, 0, none⟩), s6, s7, s8, s9, y0, y1, y2, y3, y4, y5, s16, s17, s18, s19, s20, s21, s22, s23, s24, s25, s26, s27, s28, s29, s30, s31, s32, s33, s34, s35, s36, s37, s38, s39, s40, s41, s42, s43, s44, s45, s46], defers := ds } w') :
    wpList Tryz.prog (fnOps Tryz.f17 4) Q (fnOps Tryz.f17 4).toList { tmps := #[s0, s1, s2, s3, s4, .pointer (some ⟨g, 0, none⟩), s6, s7, s8, s9, s10, s11, s12, s13, s14, s15, s16, s17, s18, s19, s20, s21, s22, s23, s24, s25, s26, s27, s28, s29, s30, s31, s32, s33, s34, s35, s36, s37, s38, s39, s40, s41, s42, s43, s44, s45, s46], defers := ds } w := by
  have c3 : w.cell? ⟨g, 3, none⟩ = some (.bool ad) := by rw [cell_of_row _ _ 3 _ 54 (0, 0) hg]; rfl
  have c4 : w.cell? ⟨g, 4, none⟩ = some (.bool gn) := by rw [cell_of_row _ _ 4 _ 54 (0, 0) hg]; rfl
  have z : ∀ j, w.frozen? ⟨g, j, none⟩ = false := fun j => frozen_of_row _ _ j _ 54 hg
  have e1 : w.setCell ⟨g, 3, none⟩ (.bool gn) = w.setRow g (c0 :: c1 :: c2 :: .bool gn :: .bool gn :: R).toArray := by rw [setCell_eq_setRow w g 3 _ 54 (0, 0) _ hg]; simp
  have hg2 := setRow_heap w g _ (c0 :: c1 :: c2 :: .bool gn :: .bool gn :: R).toArray _ _ hg
  have e2 : (w.setRow g (c0 :: c1 :: c2 :: .bool gn :: .bool gn :: R).toArray).setCell ⟨g, 4, none⟩ (.bool ad) = (w.setRow g (c0 :: c1 :: c2 :: .bool gn :: .bool gn :: R).toArray).setRow g (c0 :: c1 :: c2 :: .bool gn :: .bool ad :: R).toArray := by rw [setCell_eq_setRow _ g 4 _ 54 (0, 0) _ hg2]; simp
  have HE := Lib.hid (fun y0 y1 y2 y3 y4 y5 => (show Q .normal { tmps := #[s0, s1, s2, s3, s4, .pointer (some ⟨g, 0, none⟩), s6, s7, s8, s9, y0, y1, y2, y3, y4, y5, s16, s17, s18, s19, s20, s21, s22, s23, s24, s25, s26, s27, s28, s29, s30, s31, s32, s33, s34, s35, s36, s37, s38, s39, s40, s41, s42, s43, s44, s45, s46], defers := ds } ((w.setCell ⟨g, 3, none⟩ (.bool gn)).setCell ⟨g, 4, none⟩ (.bool ad)) from by
    rw [e1, e2]
    exact h _ y0 y1 y2 y3 y4 y5 (setRow_heap _ _ _ _ _ _ hg2) (grown_trans (grown_row _ _ _) (grown_row _ _ _)) (by rw [size_row, size_row])))
  clear h hg hg2 e1 e2
  generalize hO : fnOps Tryz.f17 4 = os
  have hO' : (fnOps Tryz.f17 4).toList = os.toList := by rw [hO]
  conv at hO' => lhs; whnf
  rw [← hO']
  clear hO'
  go_wp2_with fail
  exact HE.out _ _ _ _ _ _
set_option maxRecDepth 100000 in
set_option maxHeartbeats 3200000 in
theorem swapHd_p {Q : Exit → Act → World → Prop} (g : Nat) (A X Y S : List Value) (w : World) (hg : w.heap[g]? = some (.cells (A ++ (X ++ (Y ++ S))).toArray 54 (0, 0))) (hA : A.length = 5) (hX : X.length = 5) (hY : Y.length = 5) (h1 : ∀ v ∈ X, v.oneCell' = true) (h2 : ∀ v ∈ Y, v.oneCell' = true) (ds : List Deferred) (s0 s1 s2 s3 s4 s6 s7 s8 s9 s10 s11 s12 s13 s14 s15 s16 s17 s18 s19 s20 s21 s22 s23 s24 s25 s26 s27 s28 s29 s30 s31 s32 s33 s34 s35 s36 s37 s38 s39 s40 s41 s42 s43 s44 s45 s46 : Value)
    (h : ∀ (w' : World) (y0 y1 y2 y3 y4 y5 : Value), w'.heap[g]? = some (.cells (A ++ (Y ++ (X ++ S))).toArray 54 (0, 0)) → w.grownBy w' (some g) → w'.heap.size = w.heap.size → Q .normal { tmps := #[s0, s1, s2, s3, s4, .pointer (some ⟨g, 0, none⟩), s6, s7, s8, s9, s10, s11, s12, s13, s14, s15, y0, y1, y2, y3, y4, y5, s22, s23, s24, s25, s26, s27, s28, s29, s30, s31, s32, s33, s34, s35, s36, s37, s38, s39, s40, s41, s42, s43, s44, s45, s46], defers := ds } w') :
    wpList Tryz.prog (fnOps Tryz.f17 5) Q (fnOps Tryz.f17 5).toList { tmps := #[s0, s1, s2, s3, s4, .pointer (some ⟨g, 0, none⟩), s6, s7, s8, s9, s10, s11, s12, s13, s14, s15, s16, s17, s18, s19, s20, s21, s22, s23, s24, s25, s26, s27, s28, s29, s30, s31, s32, s33, s34, s35, s36, s37, s38, s39, s40, s41, s42, s43, s44, s45, s46], defers := ds } w := by
  have HX := Lib.hid (range_seg hg hA)
  have HY := Lib.hid (range_seg (A := A ++ X) (X := Y) (S := S) (o := 10) (by rw [List.append_assoc]; exact hg) (by rw [List.length_append]; omega))
  have HSX := Lib.hid (show (Tryz.prog.info? 41).map (·.size) = some X.length by rw [hX]; kernel_rfl)
  have HSY := Lib.hid (show (Tryz.prog.info? 41).map (·.size) = some Y.length by rw [hY]; kernel_rfl)
  have HL1 := Lib.hid (show Y.length = X.length by omega)
  have HL2 := Lib.hid (show X.length = Y.length by omega)
  have HA := Lib.hid hA
  have HA2 := Lib.hid (show (A ++ Y).length = 10 by rw [List.length_append]; omega)
  have HG := Lib.hid hg
  have HG2 := Lib.hid (show (w.setRow g (A ++ (Y ++ (Y ++ S))).toArray).heap[g]? = some (.cells ((A ++ Y) ++ (Y ++ S)).toArray 54 (0, 0)) by rw [List.append_assoc]; exact setRow_heap _ _ _ _ _ _ hg)
  have H1 := Lib.hid h1; have H2 := Lib.hid h2
  have HE := Lib.hid (fun y0 y1 y2 y3 y4 y5 => h ((w.setRow g (A ++ (Y ++ (Y ++ S))).toArray).setRow g (A ++ (Y ++ (X ++ S))).toArray) y0 y1 y2 y3 y4 y5 (setRow_heap _ _ _ _ _ _ (setRow_heap _ _ _ _ _ _ hg)) (grown_trans (grown_row _ _ _) (grown_row _ _ _)) (by rw [size_row, size_row]))
  clear h hg hA hX hY h1 h2
  generalize hO : fnOps Tryz.f17 5 = os
  have hO' : (fnOps Tryz.f17 5).toList = os.toList := by rw [hO]
  conv at hO' => lhs; whnf
  rw [← hO']
  clear hO'
  go_wp2_with (first
    | (refine wpList_load_mid rfl 41 (.tmp 16) rfl g 10 rfl Y _ HY.out Tryz.underlying41 rfl HSY.out ?_)
    | (refine wpList_load_mid rfl 41 (.tmp 18) rfl g 5 rfl X _ HX.out Tryz.underlying41 rfl HSX.out ?_)
    | (refine wpList_store_seg rfl 41 (.tmp 20) (.tmp 17) rfl g 5 Y rfl rfl A X (Y ++ S) 54 HG.out HA.out HL1.out HSY.out H2.out ?_)
    | (refine wpList_store_seg rfl 41 (.tmp 21) (.tmp 19) rfl g 10 X rfl rfl (A ++ Y) Y S 54 HG2.out HA2.out HL2.out HSX.out H1.out ?_))
  exact HE.out _ _ _ _ _ _
set_option maxRecDepth 100000 in
set_option maxHeartbeats 3200000 in
theorem swapReg_p {Q : Exit → Act → World → Prop} (g : Nat) (A X Y S : List Value) (w : World) (hg : w.heap[g]? = some (.cells (A ++ (X ++ (Y ++ S))).toArray 54 (0, 0))) (hA : A.length = 15) (hX : X.length = 7) (hY : Y.length = 7) (h1 : ∀ v ∈ X, v.oneCell' = true) (h2 : ∀ v ∈ Y, v.oneCell' = true) (ds : List Deferred) (s0 s1 s2 s3 s4 s6 s7 s8 s9 s10 s11 s12 s13 s14 s15 s16 s17 s18 s19 s20 s21 s22 s23 s24 s25 s26 s27 s28 s29 s30 s31 s32 s33 s34 s35 s36 s37 s38 s39 s40 s41 s42 s43 s44 s45 s46 : Value)
    (h : ∀ (w' : World) (y0 y1 y2 y3 y4 y5 : Value), w'.heap[g]? = some (.cells (A ++ (Y ++ (X ++ S))).toArray 54 (0, 0)) → w.grownBy w' (some g) → w'.heap.size = w.heap.size → Q .normal { tmps := #[s0, s1, s2, s3, s4, .pointer (some ⟨g, 0, none⟩), s6, s7, s8, s9, s10, s11, s12, s13, s14, s15, s16, s17, s18, s19, s20, s21, y0, y1, y2, y3, y4, y5, s28, s29, s30, s31, s32, s33, s34, s35, s36, s37, s38, s39, s40, s41, s42, s43, s44, s45, s46], defers := ds } w') :
    wpList Tryz.prog (fnOps Tryz.f17 6) Q (fnOps Tryz.f17 6).toList { tmps := #[s0, s1, s2, s3, s4, .pointer (some ⟨g, 0, none⟩), s6, s7, s8, s9, s10, s11, s12, s13, s14, s15, s16, s17, s18, s19, s20, s21, s22, s23, s24, s25, s26, s27, s28, s29, s30, s31, s32, s33, s34, s35, s36, s37, s38, s39, s40, s41, s42, s43, s44, s45, s46], defers := ds } w := by
  have HX := Lib.hid (range_seg hg hA)
  have HY := Lib.hid (range_seg (A := A ++ X) (X := Y) (S := S) (o := 22) (by rw [List.append_assoc]; exact hg) (by rw [List.length_append]; omega))
  have HSX := Lib.hid (show (Tryz.prog.info? 44).map (·.size) = some X.length by rw [hX]; kernel_rfl)
  have HSY := Lib.hid (show (Tryz.prog.info? 44).map (·.size) = some Y.length by rw [hY]; kernel_rfl)
  have HL1 := Lib.hid (show Y.length = X.length by omega)
  have HL2 := Lib.hid (show X.length = Y.length by omega)
  have HA := Lib.hid hA
  have HA2 := Lib.hid (show (A ++ Y).length = 22 by rw [List.length_append]; omega)
  have HG := Lib.hid hg
  have HG2 := Lib.hid (show (w.setRow g (A ++ (Y ++ (Y ++ S))).toArray).heap[g]? = some (.cells ((A ++ Y) ++ (Y ++ S)).toArray 54 (0, 0)) by rw [List.append_assoc]; exact setRow_heap _ _ _ _ _ _ hg)
  have H1 := Lib.hid h1; have H2 := Lib.hid h2
  have HE := Lib.hid (fun y0 y1 y2 y3 y4 y5 => h ((w.setRow g (A ++ (Y ++ (Y ++ S))).toArray).setRow g (A ++ (Y ++ (X ++ S))).toArray) y0 y1 y2 y3 y4 y5 (setRow_heap _ _ _ _ _ _ (setRow_heap _ _ _ _ _ _ hg)) (grown_trans (grown_row _ _ _) (grown_row _ _ _)) (by rw [size_row, size_row]))
  clear h hg hA hX hY h1 h2
  generalize hO : fnOps Tryz.f17 6 = os
  have hO' : (fnOps Tryz.f17 6).toList = os.toList := by rw [hO]
  conv at hO' => lhs; whnf
  rw [← hO']
  clear hO'
  go_wp2_with (first
    | (refine wpList_load_mid rfl 44 (.tmp 22) rfl g 22 rfl Y _ HY.out Tryz.underlying44 rfl HSY.out ?_)
    | (refine wpList_load_mid rfl 44 (.tmp 24) rfl g 15 rfl X _ HX.out Tryz.underlying44 rfl HSX.out ?_)
    | (refine wpList_store_seg rfl 44 (.tmp 26) (.tmp 23) rfl g 15 Y rfl rfl A X (Y ++ S) 54 HG.out HA.out HL1.out HSY.out H2.out ?_)
    | (refine wpList_store_seg rfl 44 (.tmp 27) (.tmp 25) rfl g 22 X rfl rfl (A ++ Y) Y S 54 HG2.out HA2.out HL2.out HSX.out H1.out ?_))
  exact HE.out _ _ _ _ _ _
set_option maxRecDepth 100000 in
set_option maxHeartbeats 3200000 in
theorem swapCm_p {Q : Exit → Act → World → Prop} (g : Nat) (A X Y S : List Value) (w : World) (hg : w.heap[g]? = some (.cells (A ++ (X ++ (Y ++ S))).toArray 54 (0, 0))) (hA : A.length = 43) (hX : X.length = 8) (hY : Y.length = 8) (h1 : ∀ v ∈ X, v.oneCell' = true) (h2 : ∀ v ∈ Y, v.oneCell' = true) (ds : List Deferred) (s0 s1 s2 s3 s4 s6 s7 s8 s9 s10 s11 s12 s13 s14 s15 s16 s17 s18 s19 s20 s21 s22 s23 s24 s25 s26 s27 s28 s29 s30 s31 s32 s33 s34 s35 s36 s37 s38 s39 s40 s41 s42 s43 s44 s45 s46 : Value)
    (h : ∀ (w' : World) (y0 y1 y2 y3 y4 y5 : Value), w'.heap[g]? = some (.cells (A ++ (Y ++ (X ++ S))).toArray 54 (0, 0)) → w.grownBy w' (some g) → w'.heap.size = w.heap.size → Q .normal { tmps := #[s0, s1, s2, s3, s4, .pointer (some ⟨g, 0, none⟩), s6, s7, s8, s9, s10, s11, s12, s13, s14, s15, s16, s17, s18, s19, s20, s21, s22, s23, s24, s25, s26, s27, s28, s29, s30, s31, s32, s33, s34, s35, y0, y1, y2, y3, y4, y5, s42, s43, s44, s45, s46], defers := ds } w') :
    wpList Tryz.prog (fnOps Tryz.f17 8) Q (fnOps Tryz.f17 8).toList { tmps := #[s0, s1, s2, s3, s4, .pointer (some ⟨g, 0, none⟩), s6, s7, s8, s9, s10, s11, s12, s13, s14, s15, s16, s17, s18, s19, s20, s21, s22, s23, s24, s25, s26, s27, s28, s29, s30, s31, s32, s33, s34, s35, s36, s37, s38, s39, s40, s41, s42, s43, s44, s45, s46], defers := ds } w := by
  have HX := Lib.hid (range_seg hg hA)
  have HY := Lib.hid (range_seg (A := A ++ X) (X := Y) (S := S) (o := 51) (by rw [List.append_assoc]; exact hg) (by rw [List.length_append]; omega))
  have HSX := Lib.hid (show (Tryz.prog.info? 52).map (·.size) = some X.length by rw [hX]; kernel_rfl)
  have HSY := Lib.hid (show (Tryz.prog.info? 52).map (·.size) = some Y.length by rw [hY]; kernel_rfl)
  have HL1 := Lib.hid (show Y.length = X.length by omega)
  have HL2 := Lib.hid (show X.length = Y.length by omega)
  have HA := Lib.hid hA
  have HA2 := Lib.hid (show (A ++ Y).length = 51 by rw [List.length_append]; omega)
  have HG := Lib.hid hg
  have HG2 := Lib.hid (show (w.setRow g (A ++ (Y ++ (Y ++ S))).toArray).heap[g]? = some (.cells ((A ++ Y) ++ (Y ++ S)).toArray 54 (0, 0)) by rw [List.append_assoc]; exact setRow_heap _ _ _ _ _ _ hg)
  have H1 := Lib.hid h1; have H2 := Lib.hid h2
  have HE := Lib.hid (fun y0 y1 y2 y3 y4 y5 => h ((w.setRow g (A ++ (Y ++ (Y ++ S))).toArray).setRow g (A ++ (Y ++ (X ++ S))).toArray) y0 y1 y2 y3 y4 y5 (setRow_heap _ _ _ _ _ _ (setRow_heap _ _ _ _ _ _ hg)) (grown_trans (grown_row _ _ _) (grown_row _ _ _)) (by rw [size_row, size_row]))
  clear h hg hA hX hY h1 h2
  generalize hO : fnOps Tryz.f17 8 = os
  have hO' : (fnOps Tryz.f17 8).toList = os.toList := by rw [hO]
  conv at hO' => lhs; whnf
  rw [← hO']
  clear hO'
  go_wp2_with (first
    | (refine wpList_load_mid rfl 52 (.tmp 36) rfl g 51 rfl Y _ HY.out Tryz.underlying52 rfl HSY.out ?_)
    | (refine wpList_load_mid rfl 52 (.tmp 38) rfl g 43 rfl X _ HX.out Tryz.underlying52 rfl HSX.out ?_)
    | (refine wpList_store_seg rfl 52 (.tmp 40) (.tmp 37) rfl g 43 Y rfl rfl A X (Y ++ S) 54 HG.out HA.out HL1.out HSY.out H2.out ?_)
    | (refine wpList_store_seg rfl 52 (.tmp 41) (.tmp 39) rfl g 51 X rfl rfl (A ++ Y) Y S 54 HG2.out HA2.out HL2.out HSX.out H1.out ?_))
  exact HE.out _ _ _ _ _ _
set_option maxRecDepth 100000 in
set_option maxHeartbeats 3200000 in
theorem flags_r {Q : Exit → Act → World → Prop} (g : Nat) (c0 c1 c2 : Value) (ad gn : Bool) (R : List Value) (w : World) (hg : w.heap[g]? = some (.cells (c0 :: c1 :: c2 :: .bool ad :: .bool gn :: R).toArray 54 (0, 0))) (ds : List Deferred) (s0 s1 s2 s3 s4 s6 s7 s8 s9 s10 s11 s12 s13 s14 s15 s16 s17 s18 s19 s20 s21 s22 s23 s24 s25 s26 s27 s28 s29 s30 s31 s32 s33 s34 s35 s36 s37 s38 s39 s40 s41 s42 s43 s44 s45 s46 s47 s48 s49 s50 s51 s52 s53 : Value)
    (h : ∀ (w' : World) (y0 y1 y2 y3 y4 y5 : Value), w'.heap[g]? = some (.cells (c0 :: c1 :: c2 :: .bool gn :: .bool ad :: R).toArray 54 (0, 0)) → w.grownBy w' (some g) → w'.heap.size = w.heap.size → Q .normal { tmps := #[s0, s1, s2, s3, s4, .pointer (some ⟨g, 0, none⟩), s6, s7, s8, s9, s10, s11, s12, s13, s14, s15, s16, y0, y1, y2, y3, y4, y5, s23, s24, s25, s26, s27, s28, s29, s30, s31, s32, s33, s34, s35, s36, s37, s38, s39, s40, s41, s42, s43, s44, s45, s46, s47, s48, s49, s50, s51, s52, s53], defers := ds } w') :
    wpList Tryz.prog (fnOps Tryz.f21 6) Q (fnOps Tryz.f21 6).toList { tmps := #[s0, s1, s2, s3, s4, .pointer (some ⟨g, 0, none⟩), s6, s7, s8, s9, s10, s11, s12, s13, s14, s15, s16, s17, s18, s19, s20, s21, s22, s23, s24, s25, s26, s27, s28, s29, s30, s31, s32, s33, s34, s35, s36, s37, s38, s39, s40, s41, s42, s43, s44, s45, s46, s47, s48, s49, s50, s51, s52, s53], defers := ds } w := by
  have c3 : w.cell? ⟨g, 3, none⟩ = some (.bool ad) := by rw [cell_of_row _ _ 3 _ 54 (0, 0) hg]; rfl
  have c4 : w.cell? ⟨g, 4, none⟩ = some (.bool gn) := by rw [cell_of_row _ _ 4 _ 54 (0, 0) hg]; rfl
  have z : ∀ j, w.frozen? ⟨g, j, none⟩ = false := fun j => frozen_of_row _ _ j _ 54 hg
  have e1 : w.setCell ⟨g, 3, none⟩ (.bool gn) = w.setRow g (c0 :: c1 :: c2 :: .bool gn :: .bool gn :: R).toArray := by rw [setCell_eq_setRow w g 3 _ 54 (0, 0) _ hg]; simp
  have hg2 := setRow_heap w g _ (c0 :: c1 :: c2 :: .bool gn :: .bool gn :: R).toArray _ _ hg
  have e2 : (w.setRow g (c0 :: c1 :: c2 :: .bool gn :: .bool gn :: R).toArray).setCell ⟨g, 4, none⟩ (.bool ad) = (w.setRow g (c0 :: c1 :: c2 :: .bool gn :: .bool gn :: R).toArray).setRow g (c0 :: c1 :: c2 :: .bool gn :: .bool ad :: R).toArray := by rw [setCell_eq_setRow _ g 4 _ 54 (0, 0) _ hg2]; simp
  have HE := Lib.hid (fun y0 y1 y2 y3 y4 y5 => (show Q .normal { tmps := #[s0, s1, s2, s3, s4, .pointer (some ⟨g, 0, none⟩), s6, s7, s8, s9, s10, s11, s12, s13, s14, s15, s16, y0, y1, y2, y3, y4, y5, s23, s24, s25, s26, s27, s28, s29, s30, s31, s32, s33, s34, s35, s36, s37, s38, s39, s40, s41, s42, s43, s44, s45, s46, s47, s48, s49, s50, s51, s52, s53], defers := ds } ((w.setCell ⟨g, 3, none⟩ (.bool gn)).setCell ⟨g, 4, none⟩ (.bool ad)) from by
    rw [e1, e2]
    exact h _ y0 y1 y2 y3 y4 y5 (setRow_heap _ _ _ _ _ _ hg2) (grown_trans (grown_row _ _ _) (grown_row _ _ _)) (by rw [size_row, size_row])))
  clear h hg hg2 e1 e2
  generalize hO : fnOps Tryz.f21 6 = os
  have hO' : (fnOps Tryz.f21 6).toList = os.toList := by rw [hO]
  conv at hO' => lhs; whnf
  rw [← hO']
  clear hO'
  go_wp2_with fail
  exact HE.out _ _ _ _ _ _
set_option maxRecDepth 100000 in
set_option maxHeartbeats 3200000 in
theorem swapHd_r {Q : Exit → Act → World → Prop} (g : Nat) (A X Y S : List Value) (w : World) (hg : w.heap[g]? = some (.cells (A ++ (X ++ (Y ++ S))).toArray 54 (0, 0))) (hA : A.length = 5) (hX : X.length = 5) (hY : Y.length = 5) (h1 : ∀ v ∈ X, v.oneCell' = true) (h2 : ∀ v ∈ Y, v.oneCell' = true) (ds : List Deferred) (s0 s1 s2 s3 s4 s6 s7 s8 s9 s10 s11 s12 s13 s14 s15 s16 s17 s18 s19 s20 s21 s22 s23 s24 s25 s26 s27 s28 s29 s30 s31 s32 s33 s34 s35 s36 s37 s38 s39 s40 s41 s42 s43 s44 s45 s46 s47 s48 s49 s50 s51 s52 s53 : Value)
    (h : ∀ (w' : World) (y0 y1 y2 y3 y4 y5 : Value), w'.heap[g]? = some (.cells (A ++ (Y ++ (X ++ S))).toArray 54 (0, 0)) → w.grownBy w' (some g) → w'.heap.size = w.heap.size → Q .normal { tmps := #[s0, s1, s2, s3, s4, .pointer (some ⟨g, 0, none⟩), s6, s7, s8, s9, s10, s11, s12, s13, s14, s15, s16, s17, s18, s19, s20, s21, s22, y0, y1, y2, y3, y4, y5, s29, s30, s31, s32, s33, s34, s35, s36, s37, s38, s39, s40, s41, s42, s43, s44, s45, s46, s47, s48, s49, s50, s51, s52, s53], defers := ds } w') :
    wpList Tryz.prog (fnOps Tryz.f21 7) Q (fnOps Tryz.f21 7).toList { tmps := #[s0, s1, s2, s3, s4, .pointer (some ⟨g, 0, none⟩), s6, s7, s8, s9, s10, s11, s12, s13, s14, s15, s16, s17, s18, s19, s20, s21, s22, s23, s24, s25, s26, s27, s28, s29, s30, s31, s32, s33, s34, s35, s36, s37, s38, s39, s40, s41, s42, s43, s44, s45, s46, s47, s48, s49, s50, s51, s52, s53], defers := ds } w := by
  have HX := Lib.hid (range_seg hg hA)
  have HY := Lib.hid (range_seg (A := A ++ X) (X := Y) (S := S) (o := 10) (by rw [List.append_assoc]; exact hg) (by rw [List.length_append]; omega))
  have HSX := Lib.hid (show (Tryz.prog.info? 41).map (·.size) = some X.length by rw [hX]; kernel_rfl)
  have HSY := Lib.hid (show (Tryz.prog.info? 41).map (·.size) = some Y.length by rw [hY]; kernel_rfl)
  have HL1 := Lib.hid (show Y.length = X.length by omega)
  have HL2 := Lib.hid (show X.length = Y.length by omega)
  have HA := Lib.hid hA
  have HA2 := Lib.hid (show (A ++ Y).length = 10 by rw [List.length_append]; omega)
  have HG := Lib.hid hg
  have HG2 := Lib.hid (show (w.setRow g (A ++ (Y ++ (Y ++ S))).toArray).heap[g]? = some (.cells ((A ++ Y) ++ (Y ++ S)).toArray 54 (0, 0)) by rw [List.append_assoc]; exact setRow_heap _ _ _ _ _ _ hg)
  have H1 := Lib.hid h1; have H2 := Lib.hid h2
  have HE := Lib.hid (fun y0 y1 y2 y3 y4 y5 => h ((w.setRow g (A ++ (Y ++ (Y ++ S))).toArray).setRow g (A ++ (Y ++ (X ++ S))).toArray) y0 y1 y2 y3 y4 y5 (setRow_heap _ _ _ _ _ _ (setRow_heap _ _ _ _ _ _ hg)) (grown_trans (grown_row _ _ _) (grown_row _ _ _)) (by rw [size_row, size_row]))
  clear h hg hA hX hY h1 h2
  generalize hO : fnOps Tryz.f21 7 = os
  have hO' : (fnOps Tryz.f21 7).toList = os.toList := by rw [hO]
  conv at hO' => lhs; whnf
  rw [← hO']
  clear hO'
  go_wp2_with (first
    | (refine wpList_load_mid rfl 41 (.tmp 23) rfl g 10 rfl Y _ HY.out Tryz.underlying41 rfl HSY.out ?_)
    | (refine wpList_load_mid rfl 41 (.tmp 25) rfl g 5 rfl X _ HX.out Tryz.underlying41 rfl HSX.out ?_)
    | (refine wpList_store_seg rfl 41 (.tmp 27) (.tmp 24) rfl g 5 Y rfl rfl A X (Y ++ S) 54 HG.out HA.out HL1.out HSY.out H2.out ?_)
    | (refine wpList_store_seg rfl 41 (.tmp 28) (.tmp 26) rfl g 10 X rfl rfl (A ++ Y) Y S 54 HG2.out HA2.out HL2.out HSX.out H1.out ?_))
  exact HE.out _ _ _ _ _ _
set_option maxRecDepth 100000 in
set_option maxHeartbeats 3200000 in
theorem swapReg_r {Q : Exit → Act → World → Prop} (g : Nat) (A X Y S : List Value) (w : World) (hg : w.heap[g]? = some (.cells (A ++ (X ++ (Y ++ S))).toArray 54 (0, 0))) (hA : A.length = 15) (hX : X.length = 7) (hY : Y.length = 7) (h1 : ∀ v ∈ X, v.oneCell' = true) (h2 : ∀ v ∈ Y, v.oneCell' = true) (ds : List Deferred) (s0 s1 s2 s3 s4 s6 s7 s8 s9 s10 s11 s12 s13 s14 s15 s16 s17 s18 s19 s20 s21 s22 s23 s24 s25 s26 s27 s28 s29 s30 s31 s32 s33 s34 s35 s36 s37 s38 s39 s40 s41 s42 s43 s44 s45 s46 s47 s48 s49 s50 s51 s52 s53 : Value)
    (h : ∀ (w' : World) (y0 y1 y2 y3 y4 y5 : Value), w'.heap[g]? = some (.cells (A ++ (Y ++ (X ++ S))).toArray 54 (0, 0)) → w.grownBy w' (some g) → w'.heap.size = w.heap.size → Q .normal { tmps := #[s0, s1, s2, s3, s4, .pointer (some ⟨g, 0, none⟩), s6, s7, s8, s9, s10, s11, s12, s13, s14, s15, s16, s17, s18, s19, s20, s21, s22, s23, s24, s25, s26, s27, s28, y0, y1, y2, y3, y4, y5, s35, s36, s37, s38, s39, s40, s41, s42, s43, s44, s45, s46, s47, s48, s49, s50, s51, s52, s53], defers := ds } w') :
    wpList Tryz.prog (fnOps Tryz.f21 8) Q (fnOps Tryz.f21 8).toList { tmps := #[s0, s1, s2, s3, s4, .pointer (some ⟨g, 0, none⟩), s6, s7, s8, s9, s10, s11, s12, s13, s14, s15, s16, s17, s18, s19, s20, s21, s22, s23, s24, s25, s26, s27, s28, s29, s30, s31, s32, s33, s34, s35, s36, s37, s38, s39, s40, s41, s42, s43, s44, s45, s46, s47, s48, s49, s50, s51, s52, s53], defers := ds } w := by
  have HX := Lib.hid (range_seg hg hA)
  have HY := Lib.hid (range_seg (A := A ++ X) (X := Y) (S := S) (o := 22) (by rw [List.append_assoc]; exact hg) (by rw [List.length_append]; omega))
  have HSX := Lib.hid (show (Tryz.prog.info? 44).map (·.size) = some X.length by rw [hX]; kernel_rfl)
  have HSY := Lib.hid (show (Tryz.prog.info? 44).map (·.size) = some Y.length by rw [hY]; kernel_rfl)
  have HL1 := Lib.hid (show Y.length = X.length by omega)
  have HL2 := Lib.hid (show X.length = Y.length by omega)
  have HA := Lib.hid hA
  have HA2 := Lib.hid (show (A ++ Y).length = 22 by rw [List.length_append]; omega)
  have HG := Lib.hid hg
  have HG2 := Lib.hid (show (w.setRow g (A ++ (Y ++ (Y ++ S))).toArray).heap[g]? = some (.cells ((A ++ Y) ++ (Y ++ S)).toArray 54 (0, 0)) by rw [List.append_assoc]; exact setRow_heap _ _ _ _ _ _ hg)
  have H1 := Lib.hid h1; have H2 := Lib.hid h2
  have HE := Lib.hid (fun y0 y1 y2 y3 y4 y5 => h ((w.setRow g (A ++ (Y ++ (Y ++ S))).toArray).setRow g (A ++ (Y ++ (X ++ S))).toArray) y0 y1 y2 y3 y4 y5 (setRow_heap _ _ _ _ _ _ (setRow_heap _ _ _ _ _ _ hg)) (grown_trans (grown_row _ _ _) (grown_row _ _ _)) (by rw [size_row, size_row]))
  clear h hg hA hX hY h1 h2
  generalize hO : fnOps Tryz.f21 8 = os
  have hO' : (fnOps Tryz.f21 8).toList = os.toList := by rw [hO]
  conv at hO' => lhs; whnf
  rw [← hO']
  clear hO'
  go_wp2_with (first
    | (refine wpList_load_mid rfl 44 (.tmp 29) rfl g 22 rfl Y _ HY.out Tryz.underlying44 rfl HSY.out ?_)
    | (refine wpList_load_mid rfl 44 (.tmp 31) rfl g 15 rfl X _ HX.out Tryz.underlying44 rfl HSX.out ?_)
    | (refine wpList_store_seg rfl 44 (.tmp 33) (.tmp 30) rfl g 15 Y rfl rfl A X (Y ++ S) 54 HG.out HA.out HL1.out HSY.out H2.out ?_)
    | (refine wpList_store_seg rfl 44 (.tmp 34) (.tmp 32) rfl g 22 X rfl rfl (A ++ Y) Y S 54 HG2.out HA2.out HL2.out HSX.out H1.out ?_))
  exact HE.out _ _ _ _ _ _
set_option maxRecDepth 100000 in
set_option maxHeartbeats 3200000 in
theorem swapCm_r {Q : Exit → Act → World → Prop} (g : Nat) (A X Y S : List Value) (w : World) (hg : w.heap[g]? = some (.cells (A ++ (X ++ (Y ++ S))).toArray 54 (0, 0))) (hA : A.length = 43) (hX : X.length = 8) (hY : Y.length = 8) (h1 : ∀ v ∈ X, v.oneCell' = true) (h2 : ∀ v ∈ Y, v.oneCell' = true) (ds : List Deferred) (s0 s1 s2 s3 s4 s6 s7 s8 s9 s10 s11 s12 s13 s14 s15 s16 s17 s18 s19 s20 s21 s22 s23 s24 s25 s26 s27 s28 s29 s30 s31 s32 s33 s34 s35 s36 s37 s38 s39 s40 s41 s42 s43 s44 s45 s46 s47 s48 s49 s50 s51 s52 s53 : Value)
    (h : ∀ (w' : World) (y0 y1 y2 y3 y4 y5 : Value), w'.heap[g]? = some (.cells (A ++ (Y ++ (X ++ S))).toArray 54 (0, 0)) → w.grownBy w' (some g) → w'.heap.size = w.heap.size → Q .normal { tmps := #[s0, s1, s2, s3, s4, .pointer (some ⟨g, 0, none⟩), s6, s7, s8, s9, s10, s11, s12, s13, s14, s15, s16, s17, s18, s19, s20, s21, s22, s23, s24, s25, s26, s27, s28, s29, s30, s31, s32, s33, s34, s35, s36, s37, s38, s39, s40, s41, s42, y0, y1, y2, y3, y4, y5, s49, s50, s51, s52, s53], defers := ds } w') :
    wpList Tryz.prog (fnOps Tryz.f21 10) Q (fnOps Tryz.f21 10).toList { tmps := #[s0, s1, s2, s3, s4, .pointer (some ⟨g, 0, none⟩), s6, s7, s8, s9, s10, s11, s12, s13, s14, s15, s16, s17, s18, s19, s20, s21, s22, s23, s24, s25, s26, s27, s28, s29, s30, s31, s32, s33, s34, s35, s36, s37, s38, s39, s40, s41, s42, s43, s44, s45, s46, s47, s48, s49, s50, s51, s52, s53], defers := ds } w := by
  have HX := Lib.hid (range_seg hg hA)
  have HY := Lib.hid (range_seg (A := A ++ X) (X := Y) (S := S) (o := 51) (by rw [List.append_assoc]; exact hg) (by rw [List.length_append]; omega))
  have HSX := Lib.hid (show (Tryz.prog.info? 52).map (·.size) = some X.length by rw [hX]; kernel_rfl)
  have HSY := Lib.hid (show (Tryz.prog.info? 52).map (·.size) = some Y.length by rw [hY]; kernel_rfl)
  have HL1 := Lib.hid (show Y.length = X.length by omega)
  have HL2 := Lib.hid (show X.length = Y.length by omega)
  have HA := Lib.hid hA
  have HA2 := Lib.hid (show (A ++ Y).length = 51 by rw [List.length_append]; omega)
  have HG := Lib.hid hg
  have HG2 := Lib.hid (show (w.setRow g (A ++ (Y ++ (Y ++ S))).toArray).heap[g]? = some (.cells ((A ++ Y) ++ (Y ++ S)).toArray 54 (0, 0)) by rw [List.append_assoc]; exact setRow_heap _ _ _ _ _ _ hg)
  have H1 := Lib.hid h1; have H2 := Lib.hid h2
  have HE := Lib.hid (fun y0 y1 y2 y3 y4 y5 => h ((w.setRow g (A ++ (Y ++ (Y ++ S))).toArray).setRow g (A ++ (Y ++ (X ++ S))).toArray) y0 y1 y2 y3 y4 y5 (setRow_heap _ _ _ _ _ _ (setRow_heap _ _ _ _ _ _ hg)) (grown_trans (grown_row _ _ _) (grown_row _ _ _)) (by rw [size_row, size_row]))
  clear h hg hA hX hY h1 h2
  generalize hO : fnOps Tryz.f21 10 = os
  have hO' : (fnOps Tryz.f21 10).toList = os.toList := by rw [hO]
  conv at hO' => lhs; whnf
  rw [← hO']
  clear hO'
  go_wp2_with (first
    | (refine wpList_load_mid rfl 52 (.tmp 43) rfl g 51 rfl Y _ HY.out Tryz.underlying52 rfl HSY.out ?_)
    | (refine wpList_load_mid rfl 52 (.tmp 45) rfl g 43 rfl X _ HX.out Tryz.underlying52 rfl HSX.out ?_)
    | (refine wpList_store_seg rfl 52 (.tmp 47) (.tmp 44) rfl g 43 Y rfl rfl A X (Y ++ S) 54 HG.out HA.out HL1.out HSY.out H2.out ?_)
    | (refine wpList_store_seg rfl 52 (.tmp 48) (.tmp 46) rfl g 51 X rfl rfl (A ++ Y) Y S 54 HG2.out HA2.out HL2.out HSX.out H1.out ?_))
  exact HE.out _ _ _ _ _ _
end Go.Proofs.YtnlnmbcaongehaaGreatDoor
namespace Go.Proofs.YtnlnmbcaongehaaGreatDoor
open Go.RowKit
/-- The slots that are known to hold 'false' behind an operation. -/
def falseStep (ops : Array Oper) (N : Nat) (K : List Nat) (o : Oper) : Option (List Nat) :=
  match o.guard with
  | some (j, true) =>
    match (ops[j]?).bind (·.dst) with
    | some d => if K.contains d then some (match o.dst with | some x => K.filter (· != x) | none => K) else none
    | none => none
  | some (_, false) => none
  | none =>
    match o.op, o.dst with
    | .pick (.tmp s) _ (.const (.bool false)), some x => if K.contains s && decide (x < N) then some (x :: K) else none
    | .move (.tmp s), some x => if K.contains s && decide (x < N) then some (x :: K) else none
    | .assign (.tmp s), some x => if K.contains s && decide (x < N) then some (x :: K) else none
    | _, _ => none
def falseTail (ops : Array Oper) (N : Nat) : List Nat → List Oper → Option (List Nat)
  | K, [] => some K
  | K, o :: os => match falseStep ops N K o with
    | some K' => falseTail ops N K' os
    | none => none
def Falses (a : Act) (K : List Nat) : Prop := ∀ s ∈ K, a.tmps[s]? = some (.bool false)
theorem Falses.eval {a : Act} {K : List Nat} (h : Falses a K) {s : Nat} (hs : K.contains s = true) : a.eval (.tmp s) = .bool false := by
  have := h s (by simpa using hs)
  show a.tmps.getD s undef = _
  rw [Array.getD_eq_getD_getElem?, this]
  rfl
theorem Falses.put {a : Act} {K : List Nat} (h : Falses a K) {x : Nat} (hx : x < a.tmps.size) : Falses (a.put (some x) (.bool false)) (x :: K) := by
  intro s hs
  show (a.tmps.setIfInBounds x (.bool false))[s]? = _
  rw [Array.getElem?_setIfInBounds]
  by_cases e : x = s
  · rw [if_pos e, if_pos (by omega)]
  · rw [if_neg e]
    exact h s (by
      rcases List.mem_cons.1 hs with rfl | hs
      · exact absurd rfl e
      · exact hs)
theorem Falses.skip {a : Act} {K : List Nat} (h : Falses a K) (d : Option Nat) : Falses (a.put d undef) (match d with | some x => K.filter (· != x) | none => K) := by
  cases d with
  | none => exact h
  | some x =>
    intro s hs
    simp only [List.mem_filter, bne_iff_ne, ne_eq] at hs
    show (a.tmps.setIfInBounds x undef)[s]? = _
    rw [Array.getElem?_setIfInBounds, if_neg (fun e => hs.2 e.symm)]
    exact h s hs.1
theorem put_size (a : Act) (d : Option Nat) (v : Value) : (a.put d v).tmps.size = a.tmps.size := by
  cases d with
  | none => rfl
  | some x => exact Array.size_setIfInBounds
theorem put_defers (a : Act) (d : Option Nat) (v : Value) : (a.put d v).defers = a.defers := by cases d <;> rfl
theorem falseTail_wp {P : Program} {ops : Array Oper} {Q : Exit → Act → World → Prop} {N : Nat} {w : World} : ∀ (os : List Oper) (K K' : List Nat) (a : Act), falseTail ops N K os = some K' → a.tmps.size = N → Falses a K → (∀ a' : Act, a'.tmps.size = N → a'.defers = a.defers → Falses a' K' → Q .normal a' w) → wpList P ops Q os a w
  | [], K, K', a, h, hn, hf, hQ => by
    obtain rfl := Option.some.inj h
    exact hQ a hn rfl hf
  | o :: os, K, K', a, h, hn, hf, hQ => by
    have ih := falseTail_wp (P := P) (ops := ops) (Q := Q) (N := N) (w := w) os
    unfold falseTail at h
    split at h
    · rename_i K1 h1
      have keep : ∀ v, Falses (a.put o.dst v) K1 → wpList P ops Q os (a.put o.dst v) w := fun v hv => ih K1 K' _ h ((put_size _ _ _).trans hn) hv fun a' h1 h2 h3 => hQ a' h1 (h2.trans (put_defers _ _ _)) h3
      have pass : ∀ s x, o.guard = none → K.contains s = true → x < N → o.dst = some x → K1 = x :: K → (execOp a.eval o).run P w = .ok (.value (.bool false)) w → wpList P ops Q (o :: os) a w := fun s x hg hs hx hd hk he => by
        refine BigFrame.wpList_want (by unfold Region.wanted; rw [hg]) fun L hL => ?_
        unfold Oper.wp
        rw [he]
        refine hL _ _ (keep _ ?_)
        rw [hd, hk]
        exact hf.put (by omega)
      unfold falseStep at h1
      split at h1
      · rename_i j hg
        split at h1
        · rename_i d hd
          split at h1
          · rename_i hc
            refine wpList_skip ?_ (keep undef ?_)
            · unfold Region.wanted yielded
              rw [hg]
              simp only
              rw [hd]
              simp only [Option.bind_some]
              rw [hf d (by simpa using hc)]
              rfl
            · obtain rfl := Option.some.inj h1
              exact hf.skip o.dst
          · cases h1
        · cases h1
      · cases h1
      · rename_i hg
        split at h1
        · rename_i s y x hop hd
          split at h1
          · rename_i hc
            simp only [Bool.and_eq_true, decide_eq_true_eq] at hc
            refine pass s x hg hc.1 hc.2 hd (Option.some.inj h1).symm ?_
            unfold execOp
            simp only [hop, hf.eval hc.1]
            simp [go_sem, Act.eval]
          · cases h1
        · rename_i s x hop hd
          split at h1
          · rename_i hc
            simp only [Bool.and_eq_true, decide_eq_true_eq] at hc
            refine pass s x hg hc.1 hc.2 hd (Option.some.inj h1).symm ?_
            unfold execOp
            simp only [hop, hf.eval hc.1]
            simp [go_sem]
          · cases h1
        · rename_i s x hop hd
          split at h1
          · rename_i hc
            simp only [Bool.and_eq_true, decide_eq_true_eq] at hc
            refine pass s x hg hc.1 hc.2 hd (Option.some.inj h1).symm ?_
            unfold execOp
            simp only [hop, hf.eval hc.1]
            simp [go_sem]
          · cases h1
        · cases h1
    · cases h
/-- .. and so does the slot of the whole. -/
theorem falseTail_at {P : Program} {ops : Array Oper} {Q : Exit → Act → World → Prop} {w : World} (N t : Nat) (K : List Nat) {os : List Oper} {a : Act} (h : (falseTail ops N K os).map (·.contains t) = some true) (hn : a.tmps.size = N) (hf : Falses a K) (hQ : ∀ a' : Act, a'.tmps.size = N → a'.defers = a.defers → a'.tmps[t]? = some (.bool false) → Q .normal a' w) : wpList P ops Q os a w := by
  obtain ⟨K', h1, h2⟩ := Option.map_eq_some_iff.1 h
  exact falseTail_wp os K K' a h1 hn hf fun a' e1 e2 e3 => hQ a' e1 e2 (e3 t (by simpa using h2))
/-- An operation that is wanted and yields a value. -/
theorem wpList_val {P : Program} {ops : Array Oper} {Q : Exit → Act → World → Prop} {o : Oper} {os : List Oper} {a : Act} {w : World} {v : Value} (hw : Region.wanted o (yielded ops a.tmps) = true) (hy : (execOp a.eval o).run P w = .ok (.value v) w) (h : wpList P ops Q os (a.put o.dst v) w) : wpList P ops Q (o :: os) a w :=
  BigFrame.wpList_want hw fun K hK => by
    unfold Oper.wp
    rw [hy]
    exact hK _ _ h
theorem wpList_load_want {P : Program} {ops : Array Oper} {rest : List Oper} {op : Oper} {a : Act} {w : World} {Q : Exit → Act → World → Prop} (ty : TypeId) (x : Operand) (ho : op.op = .load ty x) (hw : Region.wanted op (yielded ops a.tmps) = true)
    (b o : Nat) (hx : a.eval x = .pointer (some ⟨b, o, none⟩)) (cs : List Value) (d : TypeDesc) (hc : w.rangeAt b o cs) (hu : P.underlying ty = some d) (hd : d.isRow = true) (hi : (P.info? ty).map (·.size) = some cs.length)
    (h : wpList P ops Q rest (a.put op.dst (.agg cs.toArray)) w) : wpList P ops Q (op :: rest) a w :=
  BigFrame.wpList_want hw fun _ hK => wp_load_mid ty x ho b o hx cs d hc hu hd hi (hK _ _ h)
end Go.Proofs.YtnlnmbcaongehaaGreatDoor
