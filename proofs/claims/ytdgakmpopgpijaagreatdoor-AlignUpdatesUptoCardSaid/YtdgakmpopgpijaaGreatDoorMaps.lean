/- Maps that a call makes, from int64 to int and from int64 to bool: what they hold, key by key. -/
import Derived.Test.YtdgakmpopgpijaaGreatDoorRowLen
import Derived.Maps.OwnSet
set_option linter.unusedVariables false
namespace Go.Proofs.YtdgakmpopgpijaaGreatDoor
open Go.RowKit Go.Maps

/-- The element ahead of the k-th. -/
def aheadOf {α : Type} (xs : List α) : Nat → Option α
  | 0 => none
  | k + 1 => xs[k]?

theorem keyed2 : Keyed Tryz.prog 2 := int_keyed Tryz.underlying2
theorem zero3 (w : World) : (zeroValue 3).run Tryz.prog w = .ok (.int .i64 0) w := by kernel_rfl
theorem zero4 (w : World) : (zeroValue 4).run Tryz.prog w = .ok (.bool false) w := by kernel_rfl
theorem isKey (z : Int) : WideAt.IsKeyLit (.int .i64 z) := trivial
theorem wf64 {z : Int} (h : i64 z) : (Lit.int .i64 z).wf = true := WalkArith.wf_i64 h
theorem key2 {z : Int} (h : i64 z) : keyOf Tryz.prog 2 (.int .i64 z) = some (.int .i64 z) := keyOf_int_mk Tryz.underlying2 (wf64 h)

/-- A look-up at the operation, by the equation of its run. -/
theorem wpList_lookup_run {P : Program} (w : World) {ops : Array Oper} {rest : List Oper} {o : Oper} {a : Act} {Q : Exit → Act → World → Prop}
    (hg : o.guard = none) (m x : Operand) (t : TypeId) (c : Bool) (hop : o.op = Op.lookup t m x c) (mv key v : Value) (hm : a.eval m = mv) (hx : a.eval x = key)
    (hrun : (Instr.lookup t mv key c).run P w = .ok v w) (hK : wpList P ops Q rest (a.put o.dst v) w) : wpList P ops Q (o :: rest) a w := by
  refine wpList_plain hg fun K' hK' => ?_
  unfold Oper.wp
  simp [execOp, hop, hm, hx, hrun, Result.andThen]
  exact hK' _ _ hK

/-- Block b is a map of at most n entries, from int64 to int, that holds f. -/
def IMap (w : World) (b n : Nat) (f : Int → Option Nat) : Prop := ∃ D : DataW Unit, w.ownsMap Tryz.prog 2 (plainElem Tryz.prog 3) b n D ∧
  ∀ z, Maps.has D (.int .i64 z) = (f z).isSome ∧ D.atKey (.int .i64 z) (.lit (.int .i64 0)) = .lit (.int .i64 ((f z).getD 0 : Nat))

theorem IMap.made (w : World) : IMap (w.alloc (.map #[] 0)) w.heap.size 0 (fun _ => none) :=
  ⟨_, World.ownsMap_made _ _ _ _, fun z => ⟨rfl, rfl⟩⟩
theorem IMap.lt {w : World} {b n : Nat} {f : Int → Option Nat} (h : IMap w b n f) : b < w.heap.size := by
  obtain ⟨D, h, _⟩ := h; exact h.lt
theorem ownsMap_below {H : Type} {P : Program} {k : TypeId} {R : Value → Option (DataW H × List MemPlace)} {w w' : World} {b n B : Nat} {D : DataW H} (h : w.ownsMap P k R b n D) (hb : Below B w w') (hB : b < B) : w'.ownsMap P k R b n D := by
  obtain ⟨es, clock, h1, r⟩ := h
  exact ⟨es, clock, (hb.block b hB).trans h1, r⟩
theorem IMap.below {w w' : World} {b n B : Nat} {f : Int → Option Nat} (h : IMap w b n f) (hb : Below B w w') (hB : b < B) : IMap w' b n f := by
  obtain ⟨D, h, r⟩ := h
  exact ⟨D, ownsMap_below h hb hB, r⟩
theorem IMap.look {w : World} {b n : Nat} {f : Int → Option Nat} (h : IMap w b n f) {z : Int} (hz : i64 z) :
    (Instr.lookup 68 (.map (some b)) (.int .i64 z) true).run Tryz.prog w = .ok (.tuple #[.int .i64 ((f z).getD 0 : Nat), .bool (f z).isSome]) w := by
  obtain ⟨D, h, r⟩ := h
  obtain ⟨v, ps, hrun, hv⟩ := h.look_ok keyed2 Tryz.underlying68 (zero3 w) (plainElem_int Tryz.underlying3 (by decide)) (key2 hz)
  rw [(r z).2] at hv
  obtain ⟨c, rfl, hc, _⟩ := plainElem_int_inv Tryz.underlying3 hv
  simp only [Prod.mk.injEq, DataW.lit.injEq, Lit.int.injEq, true_and] at hc
  rw [hrun, (r z).1, ← hc.1]
theorem IMap.put {w : World} {b n : Nat} {f : Int → Option Nat} (h : IMap w b n f) {z : Int} (hz : i64 z) (hn : n < maxLen) (v : Nat) (hv : i64 v) :
    ∃ w', (Instr.mapUpdate 68 (.map (some b)) (.int .i64 z) (.int .i64 v)).run Tryz.prog w = .ok () w' ∧ IMap w' b (n + 1) (fun y => if y = z then some v else f y) ∧ w.grownBy w' (some b) := by
  obtain ⟨D, h, r⟩ := h
  obtain ⟨w', h1, h2, h3⟩ := h.update keyed2 Tryz.underlying68 hn (key2 hz) (plainElem_int Tryz.underlying3 (wf64 hv))
  refine ⟨w', h1, ⟨_, h2, fun y => ?_⟩, h3⟩
  by_cases hy : y = z
  · subst hy
    simp only [if_true]
    exact ⟨has_put_same h.isMap (isKey _) _, atKey_put_same h.isMap (isKey _) _ _⟩
  · simp only [if_neg hy]
    have hne : Lit.int .i64 y ≠ Lit.int .i64 z := by simpa using hy
    rw [has_put_other hne, atKey_put_other hne]
    exact r y

/-- Block b is a map of at most n entries, from int64 to bool, that holds f. -/
def BMap (w : World) (b n : Nat) (f : Int → Bool) : Prop := ∃ D : DataW Unit, w.ownsMap Tryz.prog 2 (plainElem Tryz.prog 4) b n D ∧
  ∀ z, D.atKey (.int .i64 z) (.lit (.bool false)) = .lit (.bool (f z))
theorem plainElem_bool_inv {H : Type} {P : Program} {e : TypeId} (he : P.underlying e = some .bool) {v : Value} {z : DataW H × List MemPlace} (h : plainElem P e v = some z) : ∃ a, v = .bool a ∧ z = (.lit (.bool a), []) := by
  unfold plainElem at h
  rw [he] at h
  cases v <;> simp at h
  subst h
  exact ⟨_, rfl, rfl⟩
theorem BMap.made (w : World) : BMap (w.alloc (.map #[] 0)) w.heap.size 0 (fun _ => false) :=
  ⟨_, World.ownsMap_made _ _ _ _, fun z => rfl⟩
theorem BMap.lt {w : World} {b n : Nat} {f : Int → Bool} (h : BMap w b n f) : b < w.heap.size := by
  obtain ⟨D, h, _⟩ := h; exact h.lt
theorem BMap.below {w w' : World} {b n B : Nat} {f : Int → Bool} (h : BMap w b n f) (hb : Below B w w') (hB : b < B) : BMap w' b n f := by
  obtain ⟨D, h, r⟩ := h
  exact ⟨D, ownsMap_below h hb hB, r⟩
theorem BMap.look {w : World} {b n : Nat} {f : Int → Bool} (h : BMap w b n f) {z : Int} (hz : i64 z) :
    (Instr.lookup 65 (.map (some b)) (.int .i64 z) false).run Tryz.prog w = .ok (.bool (f z)) w := by
  obtain ⟨D, h, r⟩ := h
  obtain ⟨v, ps, hrun, hv⟩ := h.lookup keyed2 Tryz.underlying65 (zero4 w) (plainElem_bool Tryz.underlying4 false) (key2 hz)
  rw [r z] at hv
  obtain ⟨c, rfl, hc⟩ := plainElem_bool_inv Tryz.underlying4 hv
  simp only [Prod.mk.injEq, DataW.lit.injEq, Lit.bool.injEq] at hc
  rw [hrun, ← hc.1]
theorem BMap.put {w : World} {b n : Nat} {f : Int → Bool} (h : BMap w b n f) {z : Int} (hz : i64 z) (hn : n < maxLen) (v : Bool) :
    ∃ w', (Instr.mapUpdate 65 (.map (some b)) (.int .i64 z) (.bool v)).run Tryz.prog w = .ok () w' ∧ BMap w' b (n + 1) (fun y => if y = z then v else f y) ∧ w.grownBy w' (some b) := by
  obtain ⟨D, h, r⟩ := h
  obtain ⟨w', h1, h2, h3⟩ := h.update keyed2 Tryz.underlying65 hn (key2 hz) (plainElem_bool Tryz.underlying4 v)
  refine ⟨w', h1, ⟨_, h2, fun y => ?_⟩, h3⟩
  by_cases hy : y = z
  · subst hy
    simp only [if_true]
    exact atKey_put_same h.isMap (isKey _) _ _
  · simp only [if_neg hy]
    have hne : Lit.int .i64 y ≠ Lit.int .i64 z := by simpa using hy
    rw [atKey_put_other hne]
    exact r y

end Go.Proofs.YtdgakmpopgpijaaGreatDoor
