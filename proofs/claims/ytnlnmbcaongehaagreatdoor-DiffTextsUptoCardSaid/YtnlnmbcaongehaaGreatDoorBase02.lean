/- Lists of the call's own that grow by append, whose elements have memory of their own. The contracts of style.Valid, alike and Len: what they return for any runs and rows. The contracts of (*strings.Builder).copyCheck and WriteString at this program: the builder holds the bytes behind what it held. (The shelf's own proofs, turned to this program, whose copyCheck bears a refused panic.) The contracts of style.Len and style.Plain: the number of characters and the text of any row. The contract of style.Check: the first error of a row. The contracts of event.spans, KindName and row: what they return for any span, kind and row. The contract of event.row: the error of a row of an event. -/
import Derived.Maps.AppendAt
import Derived.WalkKit
import Derived.Lib.Hide
import Derived.Outline
import Derived.Test.YtnlnmbcaongehaaGreatDoorBase01
import Derived.Test.YtnlnmbcaongehaaGreatDoorBase00
set_option linter.unusedVariables false
set_option linter.unusedSimpArgs false
namespace Go.Proofs.YtnlnmbcaongehaaGreatDoor
open Go.RowKit
/-- Append of one element that was just laid into a block of its own, and where the row lies then. -/
theorem wpList_append_at {P : Program} (w : World) (cs : Array Value) {ops : Array Oper} {rest : List Oper} {o : Oper} {a : Act} {Q : Exit → Act → World → Prop} (hgd : o.guard = none) (s x : Operand) (t : TypeId)
    (ho : o.op = .call { callee := .builtin .append, args := #[s, x], argTypes := #[t, t] })
    (base : Nat) (e : TypeId) (i : TypeInfo) (z : Value) (size bytes : Nat) (ht : P.underlying t = some (.slice e)) (hi : P.info? e = some i) (hz : i.zero = some z)
    (hsize : i.size = size) (hby : i.bytes = bytes) (hzs : z.cells.size = size) (hsz : 0 < size)
    (v : Value) (n : Nat) (xs : List Value) (hs : a.eval s = v) (hown : w.ownsRow base e size v n xs) (g : Nat) (hx : a.eval x = .slice (some ⟨g, 0, none⟩) 1 1) (hg : g = w.heap.size)
    (hcs : cs.size = size) (h1 : ∀ u ∈ cs.toList, u.oneCell' = true) (h63 : n + 1 ≤ maxLen) (hbytes : (n + 1) * bytes ≤ 140737488355328) (hbase : base ≤ w.heap.size)
    (h : ∀ v' w2, w2.ownsRow base e size v' (n + 1) (xs ++ cs.toList) → (w.alloc (.cells cs e)).grownBy w2 v.ownBlock → (v'.ownBlock = v.ownBlock ∨ v'.ownBlock = some (w.heap.size + 1)) → wpList P ops Q rest (a.put o.dst v') w2) : wpList P ops Q (o :: rest) a (w.alloc (.cells cs e)) := by
  subst hg
  refine wpList_append_own_at _ hgd s x t ho base e i z size bytes ht hi hz hsize hby hzs hsz v n xs hs (hown.alloc _) ⟨w.heap.size, 0, none⟩ 1 1 cs.toList hx (by simpa using hcs) (cells_new w cs e) h1 h63 hbytes (by simp; omega) ?_
  intro v' w2 h2 h3 _ h4
  refine h v' w2 h2 h3 ?_
  simpa using h4
section
variable {P : Program} {α : Type} {enc : α → List Value} {Ok : World → α → Prop} (w : World)
/-- Append of a slice's elements, the slice nil, empty or not. -/
theorem run_append_slice (base : Nat) (t ty e : TypeId) (i : TypeInfo) (z : Value) (size bytes : Nat) (ht : P.underlying t = some (.slice e)) (hi : P.info? e = some i) (hz : i.zero = some z)
    (hsize : i.size = size) (hby : i.bytes = bytes) (hzs : z.cells.size = size) (hsz : 0 < size) (hk : ∀ x, (enc x).length = size) (h1 : ∀ x, ∀ v ∈ enc x, v.oneCell' = true)
    (v : Value) (n : Nat) (xs : List Value) (hown : w.ownsRow base e size v n xs) (A : Option Addr) (c : Nat) (ys : List α) (hS : SliceOf size enc Ok w A ys)
    (h63 : n + ys.length ≤ maxLen) (hbytes : (n + ys.length) * bytes ≤ 140737488355328) (hbase : base ≤ w.heap.size) :
    ∃ v' w', (Builtin.append_ #[t, t] ty #[v, .slice A ys.length c]).run P w = .ok v' w' ∧ w'.ownsRow base e size v' (n + ys.length) (xs ++ ys.flatMap enc) ∧ w.grownBy w' v.ownBlock ∧ (v'.ownBlock = v.ownBlock ∨ v'.ownBlock = some w.heap.size) := by
  rcases A with _ | ad
  · have hm : ys = [] := by
      rcases hS with h | ⟨_, _, h, _⟩
      · exact h
      · cases h
    subst hm
    refine ⟨v, w, ?_, by simpa using hown, ⟨rfl, rfl, rfl, Nat.le_refl _, fun _ _ _ => rfl⟩, .inl rfl⟩
    rcases hown.2 with ⟨rfl, rfl⟩ | ⟨g, cap, cur, rfl, _, _, hnc, _⟩
    · simp [Builtin.append_, run_underlying ht, sizeOf, typeInfo, hi, Builtin.lenOf, Builtin.firstCells]
    · simp [Builtin.append_, run_underlying ht, sizeOf, typeInfo, hi, Builtin.lenOf, Builtin.firstCells, hnc, storeCells]
  · have hcells : ∀ j u, (ys.flatMap enc)[j]? = some u → w.cell? (ad.add j) = some u := by
      intro j u hu
      rcases hS with h | ⟨b, off, h, hlt, hc⟩
      · subst h
        simp at hu
      · obtain rfl := Option.some.inj h
        have h' := flat_cells (Ok := Ok) hk (.inr ⟨b, off, rfl, hlt, hc⟩) j u hu
        simp only [Addr.add]
        split
        · rename_i h0
          have h0 : j = 0 := by simpa using h0
          subst h0
          simpa using h'
        · exact h'
    obtain ⟨v', w', hrun, h2, h3, _, h5⟩ := run_append_own_at (P := P) w base t ty e i z size bytes ht hi hz hsize hby hzs hsz v n xs hown ad ys.length c (ys.flatMap enc) (flat_len enc size hk ys) hcells (flat_one h1 ys) h63 hbytes hbase
    exact ⟨v', w', hrun, h2, h3, h5⟩
theorem wp_append_slice {o : Oper} {a : Act} {K : Act → World → Prop} {Q : Exit → Act → World → Prop} (s x : Operand) (t : TypeId)
    (ho : o.op = .call { callee := .builtin .append, args := #[s, x], argTypes := #[t, t] })
    (base : Nat) (e : TypeId) (i : TypeInfo) (z : Value) (size bytes : Nat) (ht : P.underlying t = some (.slice e)) (hi : P.info? e = some i) (hz : i.zero = some z)
    (hsize : i.size = size) (hby : i.bytes = bytes) (hzs : z.cells.size = size) (hsz : 0 < size) (hk : ∀ x, (enc x).length = size) (h1 : ∀ x, ∀ v ∈ enc x, v.oneCell' = true)
    (v : Value) (n : Nat) (xs : List Value) (hs : a.eval s = v) (hown : w.ownsRow base e size v n xs) (A : Option Addr) (c : Nat) (ys : List α) (hx : a.eval x = .slice A ys.length c) (hS : SliceOf size enc Ok w A ys)
    (h63 : n + ys.length ≤ maxLen) (hbytes : (n + ys.length) * bytes ≤ 140737488355328) (hbase : base ≤ w.heap.size)
    (h : ∀ v' w', w'.ownsRow base e size v' (n + ys.length) (xs ++ ys.flatMap enc) → w.grownBy w' v.ownBlock → (v'.ownBlock = v.ownBlock ∨ v'.ownBlock = some w.heap.size) → K (a.put o.dst v') w') : o.wp P a w K Q := by
  obtain ⟨v', w', hrun, h2, h3, h4⟩ := run_append_slice (P := P) (enc := enc) (Ok := Ok) w base t o.type e i z size bytes ht hi hz hsize hby hzs hsz hk h1 v n xs hown A c ys hS h63 hbytes hbase
  unfold Oper.wp execOp
  simp only [ho, resolve, invoke, builtin, Sem.run_bind, Sem.run_pure, Result.andThen_ok, List.map_toArray, List.map_cons, List.map_nil, hs, hx, hrun]
  exact h v' w' h2 h3 h4
theorem wpList_append_slice {ops : Array Oper} {rest : List Oper} {o : Oper} {a : Act} {Q : Exit → Act → World → Prop} (hgd : o.guard = none) (s x : Operand) (t : TypeId)
    (ho : o.op = .call { callee := .builtin .append, args := #[s, x], argTypes := #[t, t] })
    (base : Nat) (e : TypeId) (i : TypeInfo) (z : Value) (size bytes : Nat) (ht : P.underlying t = some (.slice e)) (hi : P.info? e = some i) (hz : i.zero = some z)
    (hsize : i.size = size) (hby : i.bytes = bytes) (hzs : z.cells.size = size) (hsz : 0 < size) (hk : ∀ x, (enc x).length = size) (h1 : ∀ x, ∀ v ∈ enc x, v.oneCell' = true)
    (v : Value) (n : Nat) (xs : List Value) (hs : a.eval s = v) (hown : w.ownsRow base e size v n xs) (A : Option Addr) (c : Nat) (ys : List α) (hx : a.eval x = .slice A ys.length c) (hS : SliceOf size enc Ok w A ys)
    (h63 : n + ys.length ≤ maxLen) (hbytes : (n + ys.length) * bytes ≤ 140737488355328) (hbase : base ≤ w.heap.size)
    (h : ∀ v' w', w'.ownsRow base e size v' (n + ys.length) (xs ++ ys.flatMap enc) → w.grownBy w' v.ownBlock → (v'.ownBlock = v.ownBlock ∨ v'.ownBlock = some w.heap.size) → wpList P ops Q rest (a.put o.dst v') w') : wpList P ops Q (o :: rest) a w :=
  wpList_plain hgd fun _ hK => wp_append_slice (enc := enc) (Ok := Ok) w s x t ho base e i z size bytes ht hi hz hsize hby hzs hsz hk h1 v n xs hs hown A c ys hx hS h63 hbytes hbase fun v' w' h2 h3 h4 => hK _ _ (h v' w' h2 h3 h4)
end
/-- What is known of elements that have memory of their own. -/
structure Deep {α : Type} (lies : World → α → Prop) (uses : α → Nat → Prop) : Prop where
  frame : ∀ x w w', lies w x → w.heap.size ≤ w'.heap.size → (∀ b, uses x b → w'.heap[b]? = w.heap[b]?) → lies w' x
  lt : ∀ x w b, lies w x → uses x b → b < w.heap.size
/-- The elements zs in a row of the call's own: each lies in memory of the call's own, apart from the row. -/
def GrowL {α : Type} (T k : Nat) (enc : α → List Value) (lies : World → α → Prop) (uses : α → Nat → Prop) (B : Nat) (W0 : World) (v : Value) (zs : List α) (wr : World) : Prop :=
  wr.ownsRow B T k v zs.length (zs.flatMap enc) ∧ (∀ z ∈ zs, lies wr z ∧ (∀ b, uses z b → v.ownBlock ≠ some b ∧ B ≤ b)) ∧ Below B W0 wr
theorem GrowL.start {α : Type} {T k : Nat} {enc : α → List Value} {lies : World → α → Prop} {uses : α → Nat → Prop} {B : Nat} {W0 wr : World} (hb : Below B W0 wr) : GrowL T k enc lies uses B W0 (.slice none 0 0) [] wr :=
  ⟨World.ownsRow_nil _ _ _ _, fun z hz => by simp at hz, hb⟩
theorem GrowL.later {α : Type} {T k : Nat} {enc : α → List Value} {lies : World → α → Prop} {uses : α → Nat → Prop} (hD : Deep lies uses) {B : Nat} {W0 wr w1 : World} {v : Value} {zs : List α} (h : GrowL T k enc lies uses B W0 v zs wr) (hB : B ≤ W0.heap.size) (hb : Below wr.heap.size wr w1) : GrowL T k enc lies uses B W0 v zs w1 := by
  obtain ⟨h1, h2, h3⟩ := h
  exact ⟨owns_below h1 hb, fun z hz => ⟨hD.frame z wr w1 (h2 z hz).1 hb.size (fun b hu => hb.block b (hD.lt z wr b (h2 z hz).1 hu)), (h2 z hz).2⟩, h3.trans (hb.mono (Nat.le_trans hB h3.size))⟩
theorem GrowL.push {α : Type} {T k : Nat} {enc : α → List Value} {lies : World → α → Prop} {uses : α → Nat → Prop} (hD : Deep lies uses) {B : Nat} {W0 w1 w2 : World} {v v' : Value} {zs : List α} {y : α} {cs : Array Value} (h : GrowL T k enc lies uses B W0 v zs w1) (hB : B ≤ W0.heap.size)
    (hcs : cs.toList = enc y) (hown : w2.ownsRow B T k v' (zs.length + 1) (zs.flatMap enc ++ cs.toList)) (hg : (w1.alloc (.cells cs T)).grownBy w2 v.ownBlock) (hat : v'.ownBlock = v.ownBlock ∨ v'.ownBlock = some (w1.heap.size + 1))
    (hy : lies w1 y) (hyu : ∀ b, uses y b → v.ownBlock ≠ some b ∧ B ≤ b) : GrowL T k enc lies uses B W0 v' (zs ++ [y]) w2 := by
  obtain ⟨h1, h2, h3⟩ := h
  have hsz : w1.heap.size + 1 ≤ w2.heap.size := by
    have := hg.size
    simpa using this
  have hblk : ∀ b, b < w1.heap.size → v.ownBlock ≠ some b → w2.heap[b]? = w1.heap[b]? := fun b hb hne => by
    rw [hg.block b (by simp; omega) (fun e => hne e.symm)]
    exact Below.heap_alloc w1 _ b hb
  have hne' : ∀ b, b < w1.heap.size → v.ownBlock ≠ some b → v'.ownBlock ≠ some b := fun b hb hne e => by
    rcases hat with e' | e'
    · exact hne (e' ▸ e)
    · rw [e'] at e
      simp only [Option.some.injEq] at e
      omega
  refine ⟨?_, fun z hz => ?_, ?_⟩
  · rw [List.length_append, List.flatMap_append]
    simp only [List.length_cons, List.length_nil, List.flatMap_cons, List.flatMap_nil, List.append_nil, ← hcs]
    exact hown
  · rcases List.mem_append.1 hz with hz | hz
    · have hl := (h2 z hz).1
      exact ⟨hD.frame z w1 w2 hl (by omega) (fun b hu => hblk b (hD.lt z w1 b hl hu) ((h2 z hz).2 b hu).1), fun b hu => ⟨hne' b (hD.lt z w1 b hl hu) ((h2 z hz).2 b hu).1, ((h2 z hz).2 b hu).2⟩⟩
    · obtain rfl : z = y := by simpa using hz
      exact ⟨hD.frame z w1 w2 hy (by omega) (fun b hu => hblk b (hD.lt z w1 b hy hu) (hyu b hu).1), fun b hu => ⟨hne' b (hD.lt z w1 b hy hu) (hyu b hu).1, (hyu b hu).2⟩⟩
  · have hB1 : B ≤ w1.heap.size := Nat.le_trans hB h3.size
    exact (h3.alloc hB1 _).grown hg (by simp; omega) (fun j hj => (h1.lt j hj).1)
/-- Behind the growth: a slice of the elements. -/
theorem GrowL.slice {α : Type} {T k : Nat} {enc : α → List Value} {lies : World → α → Prop} {uses : α → Nat → Prop} (hk : ∀ x, (enc x).length = k) {B : Nat} {W0 wr : World} {v : Value} {zs : List α} (h : GrowL T k enc lies uses B W0 v zs wr) : ∃ a cap, v = .slice a zs.length cap ∧ SliceOf k enc lies wr a zs :=
  sliceOf_owns hk h.1 fun z hz => (h.2.1 z hz).1
end Go.Proofs.YtnlnmbcaongehaaGreatDoor
namespace Go.Proofs.YtnlnmbcaongehaaGreatDoor
open Go.RowKit
/-- A run of a row. -/
structure Run where
  text : ByteArray
  color : Int
  it : Bool
  un : Bool
  ruby : ByteArray
def Run.enc (x : Run) : List Value := [.string x.text, .int .u8 x.color, .bool x.it, .bool x.un, .string x.ruby]
def Run.fits (x : Run) : Prop := x.text.size ≤ 4000000 ∧ x.ruby.size ≤ 4000000 ∧ 0 ≤ x.color ∧ x.color ≤ 255
/-- A row, with the place of its runs. -/
structure Row where
  at_ : Option Addr
  cap : Nat
  runs : List Run
def Row.enc (r : Row) : List Value := [.slice r.at_ r.runs.length r.cap]
def Runs (w : World) (a : Option Addr) (xs : List Run) : Prop := SliceOf 5 Run.enc Flat w a xs
theorem Runs.later {w w' : World} {a : Option Addr} {xs : List Run} (h : Runs w a xs) (hb : Below w.heap.size w w') : Runs w' a xs := SliceOf.keeps Flat.keeps w w' a xs hb h
def Row.lies (w : World) (r : Row) : Prop := Runs w r.at_ r.runs
theorem Row.keeps : Keeps Row.lies := fun w w' r hb h => Runs.later h hb
/-- The bytes of all texts are few. -/
def sumText : List Run → Nat
  | [] => 0
  | x :: l => x.text.size + sumText l
def Row.fits (r : Row) : Prop := (∀ x ∈ r.runs, x.fits) ∧ r.runs.length ≤ 4000000 ∧ sumText r.runs ≤ 4000000
theorem styleValid_calls (c : Int) (i u : Bool) (w : World) : Calls Tryz.prog 261 #[.agg #[.int .u8 c, .bool i, .bool u]] w fun e w' => e = .returned (.bool (decide (c ≤ 6))) ∧ Below w.heap.size w w' := by
  go_enter Tryz.func261, Tryz.ntmps261
  go_wp2
  go_ret
  exact ⟨rfl, (Below.refl _ _).alloc (Nat.le_refl _) _⟩
/-- Whether two neighbouring runs would be joined. -/
def alikeB (a b : Run) : Bool := (a.color == b.color && a.it == b.it && a.un == b.un) && (a.ruby.toList.isEmpty && b.ruby.toList.isEmpty)
theorem run_styles (c d : Int) (i u j v : Bool) (w : World) : (binOp .eql 73 (.agg #[.int .u8 c, .bool i, .bool u]) (.agg #[.int .u8 d, .bool j, .bool v])).run Tryz.prog w = .ok (.bool (c == d && i == j && u == v)) w := by
  simp [go_sem]
  repeat' split
  all_goals simp_all
set_option maxHeartbeats 800000 in
theorem alike_calls (a b : Run) (w : World) : Calls Tryz.prog 262 #[.agg a.enc.toArray, .agg b.enc.toArray] w fun e w' => e = .returned (.bool (alikeB a b)) ∧ Below w.heap.size w w' := by
  have hA : alikeB a b = ((a.color == b.color && a.it == b.it && a.un == b.un) && (a.ruby.toList.isEmpty && b.ruby.toList.isEmpty)) := rfl
  have hq := run_styles a.color b.color a.it a.un b.it b.un
  obtain ⟨t, c, i, u, r⟩ := a
  obtain ⟨t', c', i', u', r'⟩ := b
  simp only at hA hq
  simp only [Run.enc]
  generalize alikeB ⟨t, c, i, u, r⟩ ⟨t', c', i', u', r'⟩ = A at *
  generalize (c == c' && i == i' && u == u') = S at *
  have hb : ∀ o o', Below w.heap.size w ((w.alloc o).alloc o') := fun o o' => ((Below.refl _ _).alloc (Nat.le_refl _) _).alloc (by simp) _
  cases S
  · rw [Bool.false_and] at hA
    have HA := Lib.hid hA
    clear hA
    go_enter Tryz.func262, Tryz.ntmps262
    go_wp2
    go_ret
    rw [HA.out]
    exact ⟨rfl, hb _ _⟩
  · rw [Bool.true_and] at hA
    by_cases h1 : r.toList = []
    · have h1' : r.toList.isEmpty = true := by simpa using h1
      rw [h1', Bool.true_and] at hA
      by_cases h2 : r'.toList = []
      · have h2' : r'.toList.isEmpty = true := by simpa using h2
        rw [h2'] at hA
        have HA := Lib.hid hA
        clear hA
        go_enter Tryz.func262, Tryz.ntmps262
        go_wp2
        go_ret
        rw [HA.out]
        exact ⟨rfl, hb _ _⟩
      · have h2' : r'.toList.isEmpty = false := by simpa using h2
        rw [h2'] at hA
        have HA := Lib.hid hA
        clear hA
        go_enter Tryz.func262, Tryz.ntmps262
        go_wp2
        go_ret
        rw [HA.out]
        exact ⟨rfl, hb _ _⟩
    · have h1' : r.toList.isEmpty = false := by simpa using h1
      rw [h1', Bool.false_and] at hA
      have HA := Lib.hid hA
      clear hA
      go_enter Tryz.func262, Tryz.ntmps262
      go_wp2
      go_ret
      rw [HA.out]
      exact ⟨rfl, hb _ _⟩
end Go.Proofs.YtnlnmbcaongehaaGreatDoor
namespace Go.Proofs.YtnlnmbcaongehaaGreatDoor
open Go.RowKit
theorem sizeB : (Tryz.prog.info? 123).map (·.size) = some 2 := by kernel_rfl
set_option maxHeartbeats 1000000 in
set_option maxRecDepth 100000 in
theorem copyCheck_used (b : Nat) (w : World) (h0 : w.cell? ⟨b, 0, none⟩ = some (.pointer (some ⟨b, 0, none⟩))) :
    Calls Tryz.prog 122 #[.pointer (some ⟨b, 0, none⟩)] w fun e w' => e = .returned (.tuple #[]) ∧ w' = w := by
  obtain ⟨j, hj, _⟩ := Option.map_eq_some_iff.1 sizeB
  go_enter Tryz.func122, Tryz.ntmps122
  go_wp2
  rw [Lib.run_neq_ptr_same w _ Tryz.underlying120 hj]
  go_wp2
  go_end0
  exact ⟨rfl, rfl⟩
set_option maxHeartbeats 1000000 in
set_option maxRecDepth 100000 in
theorem copyCheck_fresh (b : Nat) (w : World) (h0 : w.cell? ⟨b, 0, none⟩ = some (.pointer none)) (hsh : w.shape? b = some (123, 2)) (hfz : w.frozen? ⟨b, 0, none⟩ = false) :
    Calls Tryz.prog 122 #[.pointer (some ⟨b, 0, none⟩)] w fun e w' => e = .returned (.tuple #[]) ∧ w' = w.setCell ⟨b, 0, none⟩ (.pointer (some ⟨b, 0, none⟩)) := by
  obtain ⟨j, hj, hjs⟩ := Option.map_eq_some_iff.1 sizeB
  go_enter Tryz.func122, Tryz.ntmps122
  go_wp2
  rw [Lib.run_to_unsafe w ⟨b, 0, none⟩ Tryz.underlying120 Tryz.underlying257 hj (by rw [hjs]; decide) hsh (Nat.zero_lt_succ 1)]
  simp only [Result.andThen]
  rw [Oper.upon_value]
  go_wp2
  rw [run_callFunc_extern Tryz.func193 (by kernel_rfl) (by kernel_rfl) (by kernel_rfl) (e := Extern.AbiNoEscape.same) (by kernel_rfl)]
  rw [Lib.run_noEscape]
  simp only [Result.andThen]
  rw [Oper.upon_value]
  go_wp2
  rw [Lib.run_from_unsafe w ⟨b, 0, none⟩ Tryz.underlying257 Tryz.underlying120 hj hsh Tryz.Builder_Extra_169.liesBuilder]
  simp only [Result.andThen]
  rw [Oper.upon_value]
  go_wp2
  go_end0
  exact ⟨rfl, rfl⟩
theorem copyCheck_calls (B b : Nat) (bs : List Value) (w : World) (h : Lib.IsBuilder 123 5 B b bs w) :
    Calls Tryz.prog 122 #[.pointer (some ⟨b, 0, none⟩)] w fun e w' => e = .returned (.tuple #[]) ∧ (Lib.BuilderAt 123 5 B b (.pointer (some ⟨b, 0, none⟩)) bs w' ∧ Below B w w') := by
  rcases h with h | h
  · refine (copyCheck_fresh b w h.cell0 h.shape h.frozen0).mono ?_
    rintro e w' ⟨rfl, rfl⟩
    exact ⟨rfl, h.used _, (Below.refl B w).setCell (p := ⟨b, 0, none⟩) h.1 _⟩
  · refine (copyCheck_used b w h.cell0).mono ?_
    rintro e w' ⟨rfl, rfl⟩
    exact ⟨rfl, h, Below.refl B _⟩
set_option maxHeartbeats 1000000 in
set_option maxRecDepth 100000 in
theorem writeString_calls (B b : Nat) (bs : List Value) (s : ByteArray) (w : World) (h : Lib.IsBuilder 123 5 B b bs w) (hlen : bs.length + s.size ≤ 140737488355328) (hBw : B ≤ w.heap.size) :
    Calls Tryz.prog 67 #[.pointer (some ⟨b, 0, none⟩), .string s] w fun e w' => e = .returned (.tuple #[.int .i64 s.size, .nilIface]) ∧ (Lib.BuilderAt 123 5 B b (.pointer (some ⟨b, 0, none⟩)) (bs ++ Lib.strCells s) w' ∧ Below B w w') := by
  obtain ⟨i0, hi, hz0, hz1, hz2⟩ := info_parts Tryz.Builder_Extra_169.infoByte
  go_enter Tryz.func67, Tryz.ntmps67
  go_wp2_with (go_at_call 122; refine (copyCheck_calls B b bs _ h).mono ?_)
  rintro e w1 ⟨rfl, h1, hb1⟩
  obtain ⟨hB, v, hbk, hown, hne⟩ := h1
  have c0 : w1.cell? ⟨b, 0, none⟩ = some (.pointer (some ⟨b, 0, none⟩)) := by rw [Lib.cell_of_heap hbk]; rfl
  have c1 : w1.cell? ⟨b, 1, none⟩ = some v := by rw [Lib.cell_of_heap hbk]; rfl
  go_wp2_with (at_builtin; refine Lib.wpList_append_own_string _ rfl _ _ 121 9 rfl B 5 i0 Tryz.underlying121 Tryz.underlying9 hi hz0 hz1 hz2 _ _ _ rfl hown s rfl ?c3 ?c4 ?c5 ?_)
  case c3 => unfold maxLen; omega
  case c4 => omega
  case c5 => have := hb1.size; omega
  intro v' w2 hown' hgrow _
  have hlt : b < w1.heap.size := by
    rcases Nat.lt_or_ge b w1.heap.size with h' | h'
    · exact h'
    · simp [Array.getElem?_eq_none h'] at hbk
  have hb2 : w2.heap[b]? = some (.cells #[.pointer (some ⟨b, 0, none⟩), v] 123 (0, 0)) := by
    rw [hgrow.block b hlt (fun e => hne e.symm)]
    exact hbk
  have d0 : w2.cell? ⟨b, 0, none⟩ = some (.pointer (some ⟨b, 0, none⟩)) := by rw [Lib.cell_of_heap hb2]; rfl
  have d1 : w2.cell? ⟨b, 1, none⟩ = some v := by rw [Lib.cell_of_heap hb2]; rfl
  have f1 : w2.frozen? ⟨b, 1, none⟩ = false := Lib.frozen_of_heap hb2 1
  obtain ⟨ao, n', cap, rfl⟩ : ∃ ao n' cap, v' = .slice ao n' cap := by
    rcases hown'.2 with ⟨hv, _⟩ | ⟨g, cap, cur, hv, _⟩
    · exact ⟨_, _, _, hv⟩
    · exact ⟨_, _, _, hv⟩
  go_wp2
  go_ret2
  refine ⟨rfl, ?_, ?_⟩
  · exact Lib.BuilderAt.put (T := 123) (e := 5) hB hb2 (bs' := bs ++ Lib.strCells s) (by simpa [Lib.strCells_length] using hown') (by decide)
  · exact (hb1.grown hgrow (by have := hb1.size; omega) (fun k hk => (hown.lt k hk).1)).setCell (p := ⟨b, 1, none⟩) hB _
end Go.Proofs.YtnlnmbcaongehaaGreatDoor
namespace Go.Proofs.YtnlnmbcaongehaaGreatDoor
open Go.RowKit
theorem runesF_len (s : ByteArray) : ∀ b pos, (runesF s b pos).length ≤ b
  | 0, _ => by simp [runesF]
  | b + 1, pos => by
    simp only [runesF]
    split
    · have := runesF_len s b (pos + (Utf8.decode s pos).2)
      rw [List.length_cons]; omega
    · simp
theorem lenB_le (s : ByteArray) : -1 ≤ lenB s ∧ lenB s ≤ s.size := by
  unfold lenB
  have := runesF_len s s.size 0
  split
  · unfold runes; omega
  · omega
def lenFrom : List Run → Int → Int
  | [], acc => acc
  | x :: l, acc => if lenB x.text < 0 then -1 else lenFrom l (acc + lenB x.text)
/-- The number of characters of a row, -1 if its text is not valid. -/
def rowLen (runs : List Run) : Int := lenFrom runs 0
theorem drop_at {α : Type} (xs : List α) (k : Nat) (x : α) (hx : xs[k]? = some x) : xs.drop k = x :: xs.drop (k + 1) := by
  have hk : k < xs.length := (List.getElem?_eq_some_iff.1 hx).1
  have e : xs[k] = x := (List.getElem?_eq_some_iff.1 hx).2
  rw [List.drop_eq_getElem_cons hk, e]
theorem below_alloc_trans {w wr w1 : World} (hb : Below w.heap.size w wr) (o : Obj) (h1 : Below (wr.heap.size + 1) (wr.alloc o) w1) : Below w.heap.size w w1 :=
  (hb.alloc hb.size o).trans (h1.mono (by have := hb.size; omega))
set_option maxHeartbeats 1600000 in
theorem rowLen_calls (r : Row) (w : World) (hE : Env w) (hr : r.lies w) (hf : r.fits) :
    Calls Tryz.prog 215 #[.agg r.enc.toArray] w fun e w' => e = .returned (.int .i64 (rowLen r.runs)) ∧ Below w.heap.size w w' := by
  obtain ⟨a, cap, xs⟩ := r
  obtain ⟨hfx, hl, hsum⟩ := hf
  simp only [Row.lies] at hr
  simp only [Row.enc] at *
  generalize hG : rowLen xs = G
  have H0 := Lib.hid (show lenFrom (xs.drop 0) 0 = G by rw [List.drop_zero]; exact hG)
  have hs0 : 0 + sumText (xs.drop 0) ≤ 4000000 := by simpa using hsum
  clear hG
  go_enter Tryz.func215, Tryz.ntmps215
  go_wp2_with fail
  go_loopw [3, 10] (fun s i wr => ∃ (k acc : Nat), k ≤ xs.length ∧ i = .int .i64 k ∧ s = .int .i64 acc ∧ lenFrom (xs.drop k) acc = G ∧ acc + sumText (xs.drop k) ≤ 4000000 ∧ Below w.heap.size w wr) (fun _ i _ => xs.length - (intOf i).toNat)
  case atStart => exact ⟨0, 0, by omega, rfl, rfl, H0.out, hs0, (Below.refl _ _).alloc (Nat.le_refl _) _⟩
  case round =>
    obtain ⟨k, acc, hk, rfl, rfl, hp, hs, hb⟩ := hrel
    by_cases hlt : k < xs.length
    · obtain ⟨b, off, x, rfl, hbl, hx, hc, _⟩ := (hr.later hb).at_ hlt
      have hft := hfx x (List.mem_of_getElem? hx)
      rw [drop_at xs k x hx] at hp hs
      simp only [lenFrom] at hp
      simp only [sumText] at hs
      have hll := lenB_le x.text
      have HL := Lib.hid (fun w1 (h : Env w1) => len_calls x.text w1 hft.1 h)
      have HE := Lib.hid (fun w1 (h : Below w.heap.size w w1) => hE.below h (Nat.le_refl _))
      have hbo := fun o => hb.alloc hb.size o
      have HB := Lib.hid (fun o w1 h1 => below_alloc_trans (w1 := w1) hb o h1)
      obtain ⟨t, c, i, u, ru⟩ := x
      have d0 := hc 0 _ rfl; have d1 := hc 1 _ rfl; have d2 := hc 2 _ rfl; have d3 := hc 3 _ rfl; have d4 := hc 4 _ rfl
      simp only [Nat.add_zero] at d0 d1 d2 d3 d4 hp hs HL hll
      have HP := Lib.hid hp
      have HBO := Lib.hid hbo
      clear hp hc hx H0 hr hbo hfx hft
      generalize hL : lenB t = L at *
      clear hL
      obtain ⟨l0, l1⟩ := hll
      by_cases hneg : L < 0
      · go_wp2_with (go_at_call 264; refine (HL.out _ (HE.out _ (HBO.out _))).mono ?_; rintro e w1 ⟨rfl, hb1⟩; simp only [World.size_alloc] at hb1)
        go_ret
        exact ⟨ret_int (by rw [← HP.out, if_pos hneg]), HB.out _ _ hb1⟩
      · have hnn : 0 ≤ L := by omega
        go_wp2_with (go_at_call 264; refine (HL.out _ (HE.out _ (HBO.out _))).mono ?_; rintro e w1 ⟨rfl, hb1⟩; simp only [World.size_alloc] at hb1)
        have hq := HP.out
        rw [if_neg (by omega)] at hq
        have HQ := Lib.hid hq
        clear hq HP
        obtain ⟨m, rfl⟩ := Int.eq_ofNat_of_zero_le hnn
        go_roundw
        case rel => exact ⟨k + 1, acc + m, by omega, by go_num, by go_num, by have := HQ.out; simpa using this, by omega, HB.out _ _ hb1⟩
        case measure => simp [intOf]; omega
    · obtain rfl : k = xs.length := by omega
      rw [List.drop_length] at hp
      have HP := Lib.hid hp
      clear hp H0
      go_wp2_with fail
      go_ret
      exact ⟨ret_int (by rw [← HP.out]; rfl), hb⟩
/-- The bytes of the texts of runs, one behind the other. -/
def plainL : List Run → List UInt8
  | [] => []
  | x :: l => x.text.data.toList ++ plainL l
/-- The text of a row. -/
def plain (runs : List Run) : ByteArray := ⟨(plainL runs).toArray⟩
theorem plainL_len : ∀ l, (plainL l).length = sumText l
  | [] => rfl
  | x :: l => by simp [plainL, sumText, plainL_len l]
theorem bytesOf_append (l : List UInt8) (s : ByteArray) : Lib.byteCells l ++ Lib.strCells s = Lib.byteCells (l ++ s.data.toList) := by
  rw [Lib.byteCells_append, Lib.strCells_eq]
theorem builder_alloc {B b : Nat} {bs : List Value} {w : World} (h : Lib.IsBuilder 123 5 B b bs w) (o : Obj) : Lib.IsBuilder 123 5 B b bs (w.alloc o) := by
  have key : ∀ p, Lib.BuilderAt 123 5 B b p bs w → Lib.BuilderAt 123 5 B b p bs (w.alloc o) := by
    rintro p ⟨hB, v, hb, hown, hne⟩
    have hlt : b < w.heap.size := (Array.getElem?_eq_some_iff.1 hb).1
    exact ⟨hB, v, (Below.heap_alloc w o b hlt).trans hb, hown.alloc o, hne⟩
  rcases h with h | h
  · exact .inl (key _ h)
  · exact .inr (key _ h)
theorem builder_new (w : World) : Lib.IsBuilder 123 5 w.heap.size w.heap.size (Lib.byteCells []) (w.alloc (.cells #[.pointer none, .slice none 0 0] 123)) :=
  .inl ⟨Nat.le_refl _, .slice none 0 0, heap_alloc_last w _, World.ownsRow_nil _ _ _ _, by simp [Value.ownBlock]⟩
def PlainRel (xs : List Run) (w : World) (B k : Nat) (wr : World) : Prop :=
  ∃ done, done ++ plainL (xs.drop k) = plainL xs ∧ Lib.IsBuilder 123 5 B B (Lib.byteCells done) wr ∧ Below B w wr
theorem PlainRel.size {xs : List Run} {w : World} {B k : Nat} {wr : World} (h : PlainRel xs w B k wr) : B < wr.heap.size := by
  obtain ⟨done, _, hb, _⟩ := h
  rcases hb with ⟨_, v, hb, _⟩ | ⟨_, v, hb, _⟩
  · exact (Array.getElem?_eq_some_iff.1 hb).1
  · exact (Array.getElem?_eq_some_iff.1 hb).1
set_option maxHeartbeats 1600000 in
theorem plain_calls (r : Row) (w : World) (hr : r.lies w) (hf : r.fits) :
    Calls Tryz.prog 213 #[.agg r.enc.toArray] w fun e w' => e = .returned (.string (plain r.runs)) ∧ Below w.heap.size w w' := by
  obtain ⟨a, cap, xs⟩ := r
  obtain ⟨hfx, hl, hsum⟩ := hf
  simp only [Row.lies] at hr
  simp only [Row.enc] at *
  have hpl : (plainL xs).length ≤ 4000000 := by rw [plainL_len]; exact hsum
  have HPL := Lib.hid hpl
  go_enter Tryz.func213, Tryz.ntmps213
  go_wp2_with fail
  have hst : ∀ o, PlainRel xs (w.alloc o) (w.heap.size + 1) 0 ((w.alloc o).alloc (.cells #[.pointer none, .slice none 0 0] 123)) := fun o => by
    have h1 := builder_new (w.alloc o)
    rw [World.size_alloc] at h1
    exact ⟨[], by rw [List.drop_zero, List.nil_append], h1, (Below.refl _ _).alloc (by simp) _⟩
  have HST := Lib.hid hst
  clear hst hpl hsum
  go_loopw [9] (fun i wr => ∃ k : Nat, k ≤ xs.length ∧ i = .int .i64 k ∧ PlainRel xs (w.alloc (.cells #[.slice a xs.length cap] 78)) (w.heap.size + 1) k wr) (fun i _ => xs.length - (intOf i).toNat)
  case atStart => exact ⟨0, by omega, rfl, HST.out _⟩
  case round =>
    obtain ⟨k, hk, rfl, hP⟩ := hrel
    have hsz := hP.size
    obtain ⟨done, hd, hB, hbel⟩ := hP
    have hbw := box_below hbel
    by_cases hlt : k < xs.length
    · obtain ⟨b, off, x, rfl, hbl, hx, hc, _⟩ := (hr.later hbw).at_ hlt
      rw [drop_at xs k x hx] at hd
      simp only [plainL] at hd
      obtain ⟨t, c, i, u, ru⟩ := x
      have d0 := hc 0 _ rfl; have d1 := hc 1 _ rfl; have d2 := hc 2 _ rfl; have d3 := hc 3 _ rfl; have d4 := hc 4 _ rfl
      simp only [Nat.add_zero] at d0 d1 d2 d3 d4 hd
      have hlen : (Lib.byteCells done).length + t.size ≤ 140737488355328 := by
        have h1 := congrArg List.length hd
        have h2 := HPL.out
        simp only [List.length_append, Array.length_toList, ByteArray.size_data] at h1
        rw [Lib.byteCells_length]
        omega
      have HW := Lib.hid (fun o => writeString_calls (w.heap.size + 1) (w.heap.size + 1) (Lib.byteCells done) t (wr.alloc o) (builder_alloc hB o) hlen (by simp; omega))
      have HR := Lib.hid (fun (o : Obj) (w1 : World) (h1 : Lib.BuilderAt 123 5 (w.heap.size + 1) (w.heap.size + 1) (.pointer (some ⟨w.heap.size + 1, 0, none⟩)) (Lib.byteCells done ++ Lib.strCells t) w1) (h2 : Below (w.heap.size + 1) (wr.alloc o) w1) =>
        (show PlainRel xs (w.alloc (.cells #[.slice (some ⟨b, off, none⟩) xs.length cap] 78)) (w.heap.size + 1) (k + 1) w1 from
          ⟨done ++ t.data.toList, by rw [List.append_assoc]; exact hd, .inr (by rw [← bytesOf_append]; exact h1), (hbel.alloc (by omega) o).trans h2⟩))
      clear hc hx hr hd hB hbel hlen hfx
      go_wp2_with (go_at_call 67; refine (HW.out _).mono ?_; rintro e w1 ⟨rfl, h1, h2⟩)
      have hR := HR.out _ _ h1 h2
      go_roundw
      case rel => exact ⟨k + 1, by omega, by go_num, hR⟩
      case measure => simp [intOf]; omega
    · obtain rfl : k = xs.length := by omega
      rw [List.drop_length] at hd
      simp only [plainL, List.append_nil] at hd
      have HW := Lib.hid (Tryz.Builder_String_any (w.heap.size + 1) (w.heap.size + 1) done wr hB (by omega))
      have HB := Lib.hid (fun w1 (h : Below (w.heap.size + 1) wr w1) => hbw.trans (h.mono (by omega)))
      have HD := Lib.hid hd
      clear hd hB hbel hr hfx
      go_wp2_with (go_at_call 69; refine HW.out.mono ?_; rintro e w1 ⟨rfl, h1⟩)
      go_ret
      exact ⟨by rw [HD.out]; rfl, HB.out _ h1⟩
end Go.Proofs.YtnlnmbcaongehaaGreatDoor
namespace Go.Proofs.YtnlnmbcaongehaaGreatDoor
open Go.RowKit
/-- The error of a run by itself. -/
def runErr (x : Run) : Int := if (!validB x.text) = true then 10 else if x.text.toList = [] then 4 else if ¬ x.color ≤ 6 then 12 else if (!validB x.ruby) = true then 10 else 0
/-- The error of a run behind another one. -/
def runStep (prev : Option Run) (x : Run) : Int := if (runErr x != 0) = true then runErr x else match prev with
  | none => 0
  | some p => if alikeB p x = true then 8 else 0
def runsFrom : Option Run → List Run → Int
  | _, [] => 0
  | prev, x :: l => if (runStep prev x != 0) = true then runStep prev x else runsFrom (some x) l
/-- The first error of a row. -/
def rowErr (runs : List Run) : Int := if 16 < runs.length then 9 else runsFrom none runs
def prevRun (xs : List Run) : Nat → Option Run
  | 0 => none
  | k + 1 => xs[k]?
theorem runsFrom_next (xs : List Run) (k : Nat) (x : Run) (hx : xs[k]? = some x) (prev : Option Run) (h : runStep prev x = 0) : runsFrom prev (xs.drop k) = runsFrom (prevRun xs (k + 1)) (xs.drop (k + 1)) := by
  rw [drop_at xs k x hx, runsFrom, h]
  simp [prevRun, hx]
theorem runsFrom_stop (xs : List Run) (k : Nat) (x : Run) (hx : xs[k]? = some x) (prev : Option Run) (h : (runStep prev x != 0) = true) : runsFrom prev (xs.drop k) = runStep prev x := by
  rw [drop_at xs k x hx, runsFrom, if_pos h]
theorem rowCheck_many (r : Row) (w : World) (hn : 16 < r.runs.length) :
    Calls Tryz.prog 212 #[.agg r.enc.toArray] w fun e w' => e = .returned (.int .i64 (rowErr r.runs)) ∧ Below w.heap.size w w' := by
  rw [rowErr, if_pos hn]
  have hn' : (16 : Int) < (r.runs.length : Int) := by omega
  simp only [Row.enc]
  go_enter Tryz.func212, Tryz.ntmps212
  go_wp2_with fail
  go_ret
  exact ⟨rfl, (Below.refl _ _).alloc (Nat.le_refl _) _⟩
/-- A round of Check: all that it needs, by cases of the run. -/
theorem run_cases (x : Run) : (validB x.text = false ∧ runErr x = 10) ∨ (validB x.text = true ∧ x.text.toList = [] ∧ runErr x = 4) ∨ (validB x.text = true ∧ ¬ x.text.toList = [] ∧ ¬ x.color ≤ 6 ∧ runErr x = 12) ∨
    (validB x.text = true ∧ ¬ x.text.toList = [] ∧ x.color ≤ 6 ∧ validB x.ruby = false ∧ runErr x = 10) ∨ (validB x.text = true ∧ ¬ x.text.toList = [] ∧ x.color ≤ 6 ∧ validB x.ruby = true ∧ runErr x = 0) := by
  unfold runErr
  cases h1 : validB x.text <;> by_cases h2 : x.text.toList = [] <;> by_cases h3 : x.color ≤ 6 <;> cases h4 : validB x.ruby <;> simp [h2, h3]
set_option maxHeartbeats 6400000 in
theorem rowCheck_few (r : Row) (w : World) (hE : Env w) (hr : r.lies w) (hf : r.fits) (hn : r.runs.length ≤ 16) :
    Calls Tryz.prog 212 #[.agg r.enc.toArray] w fun e w' => e = .returned (.int .i64 (rowErr r.runs)) ∧ Below w.heap.size w w' := by
  obtain ⟨a, cap, xs⟩ := r
  obtain ⟨hfx, hl, hsum⟩ := hf
  simp only [Row.lies] at hr
  simp only [Row.enc] at *
  rw [rowErr, if_neg (by omega)]
  generalize hG : runsFrom none xs = G
  have H0 := Lib.hid (show runsFrom (prevRun xs 0) (xs.drop 0) = G by rw [List.drop_zero]; exact hG)
  have hn2 : decide ((16 : Int) < (xs.length : Int)) = false := by simp; omega
  clear hG
  go_enter Tryz.func212, Tryz.ntmps212
  go_wp2_with fail
  go_loopw [12] (fun i wr => ∃ k : Nat, k ≤ xs.length ∧ i = .int .i64 k ∧ runsFrom (prevRun xs k) (xs.drop k) = G ∧ Below (w.heap.size + 1) (w.alloc (.cells #[.slice a xs.length cap] 78)) wr) (fun i _ => xs.length - (intOf i).toNat)
  case atStart => exact ⟨0, by omega, rfl, H0.out, Below.refl _ _⟩
  case round =>
    obtain ⟨k, hk, rfl, hp, hb0⟩ := hrel
    have hb := box_below hb0
    by_cases hlt : k < xs.length
    · have hRr := hr.later hb
      obtain ⟨b, off, x, rfl, hbl, hx, hc, _⟩ := hRr.at_ hlt
      have hft := hfx x (List.mem_of_getElem? hx)
      have HN := Lib.hid (runsFrom_next xs k x hx (prevRun xs k))
      have HS := Lib.hid (runsFrom_stop xs k x hx (prevRun xs k))
      have HP := Lib.hid hp
      have hcs := run_cases x
      have hfb := box_cell w #[.slice (some ⟨b, off, none⟩) xs.length cap] 78 0 _ rfl
      have HFB := Lib.hid (fun w1 (h : Below (wr.heap.size + 1) (wr.alloc (.cells x.enc.toArray 75)) w1) => hfb w1 ((hb0.alloc (by have := hb0.size; rw [World.size_alloc] at this; exact this) _).trans (h.mono (by have := hb0.size; rw [World.size_alloc] at this; omega))))
      have HB := Lib.hid (fun w1 (h : Below (wr.heap.size + 1) (wr.alloc (.cells x.enc.toArray 75)) w1) => below_alloc_trans hb _ h)
      have HB0 := Lib.hid (fun w1 (h : Below (wr.heap.size + 1) (wr.alloc (.cells x.enc.toArray 75)) w1) => (hb0.alloc (by have := hb0.size; rw [World.size_alloc] at this; exact this) _).trans (h.mono (by have := hb0.size; rw [World.size_alloc] at this; omega)))
      obtain ⟨f1, f2, f3, f4⟩ := hft
      have hsE : ∀ p, runErr x ≠ 0 → runStep p x = runErr x := fun p h => by unfold runStep; rw [if_pos (by simpa using h)]
      have HSE := Lib.hid hsE
      have hg := fun j v h => box_cell wr x.enc.toArray 75 j v h
      obtain ⟨t, c, i, u, ru⟩ := x
      have d0 := hc 0 _ rfl; have d1 := hc 1 _ rfl; have d2 := hc 2 _ rfl; have d3 := hc 3 _ rfl; have d4 := hc 4 _ rfl
      have g0 := hg 0 _ rfl; have g1 := hg 1 _ rfl; have g2 := hg 2 _ rfl; have g3 := hg 3 _ rfl; have g4 := hg 4 _ rfl
      simp only [Nat.add_zero, Run.enc] at d0 d1 d2 d3 d4 g0 g1 g2 g3 g4 HB HB0 HFB f1 f2 f3 f4 hcs
      have HE := Lib.hid (fun w1 (h : Below (wr.heap.size + 1) (wr.alloc (.cells #[.string t, .int .u8 c, .bool i, .bool u, .string ru] 75)) w1) => hE.below (HB.out w1 h) (Nat.le_refl _))
      have hq0 : Below (wr.heap.size + 1) (wr.alloc (.cells #[.string t, .int .u8 c, .bool i, .bool u, .string ru] 75)) (wr.alloc (.cells #[.string t, .int .u8 c, .bool i, .bool u, .string ru] 75)) := Below.refl _ _
      have hsz1 : (wr.alloc (.cells #[.string t, .int .u8 c, .bool i, .bool u, .string ru] 75)).heap.size = wr.heap.size + 1 := World.size_alloc _ _
      have HV := Lib.hid (fun s (hs : s.size ≤ 4000000) w1 (h : Below (wr.heap.size + 1) (wr.alloc (.cells #[.string t, .int .u8 c, .bool i, .bool u, .string ru] 75)) w1) => valid_calls s w1 hs (HE.out w1 h))
      generalize hW1 : wr.alloc (.cells #[.string t, .int .u8 c, .bool i, .bool u, .string ru] 75) = W1 at *
      have HW1 := Lib.hid hW1
      have HSZ := Lib.hid hsz1
      clear hW1 hsz1 hc hg hsE hfb hp H0 hfx
      rcases hcs with ⟨v1, he⟩ | ⟨v1, v2, he⟩ | ⟨v1, v2, v3, he⟩ | ⟨v1, v2, v3, v4, he⟩ | ⟨v1, v2, v3, v4, he⟩
      · have hst := Lib.hid (HSE.out (prevRun xs k) (by rw [he]; decide))
        have HEE := Lib.hid he
        clear he hRr
        go_wp2_with fail
        rw [HW1.out]
        refine (HV.out t f1 _ hq0).mono ?_
        rintro e w1 ⟨rfl, hb1⟩
        rw [HSZ.out] at hb1
        go_wp2_with fail
        go_ret
        exact ⟨ret_int (by rw [← HP.out, HS.out (by rw [hst.out, HEE.out]; rfl), hst.out, HEE.out]), HB.out _ hb1⟩
      · have hst := Lib.hid (HSE.out (prevRun xs k) (by rw [he]; decide))
        have HEE := Lib.hid he
        clear he hRr
        have v2' : t.toList.isEmpty = true := by simpa using v2
        go_wp2_with fail
        rw [HW1.out]
        refine (HV.out t f1 _ hq0).mono ?_
        rintro e w1 ⟨rfl, hb1⟩
        rw [HSZ.out] at hb1
        go_wp2_with fail
        go_ret
        exact ⟨ret_int (by rw [← HP.out, HS.out (by rw [hst.out, HEE.out]; rfl), hst.out, HEE.out]), HB.out _ hb1⟩
      · have hst := Lib.hid (HSE.out (prevRun xs k) (by rw [he]; decide))
        have HEE := Lib.hid he
        clear he hRr
        have v2' : t.toList.isEmpty = false := by simpa using v2
        have v3' : decide (c ≤ 6) = false := by simpa using v3
        go_wp2_with fail
        rw [HW1.out]
        refine (HV.out t f1 _ hq0).mono ?_
        rintro e w1 ⟨rfl, hb1⟩
        rw [HSZ.out] at hb1
        go_wp2_with fail
        refine (styleValid_calls c i u _).mono ?_
        rintro e w2 ⟨rfl, hb2⟩
        replace hb2 : Below (wr.heap.size + 1) W1 w2 := hb1.trans (hb2.mono (by have := hb1.size; rw [HSZ.out] at this; exact this))
        go_wp2_with fail
        go_ret
        exact ⟨ret_int (by rw [← HP.out, HS.out (by rw [hst.out, HEE.out]; rfl), hst.out, HEE.out]), HB.out _ hb2⟩
      · have hst := Lib.hid (HSE.out (prevRun xs k) (by rw [he]; decide))
        have HEE := Lib.hid he
        clear he hRr
        have v2' : t.toList.isEmpty = false := by simpa using v2
        have v3' : decide (c ≤ 6) = true := by simpa using v3
        go_wp2_with fail
        rw [HW1.out]
        refine (HV.out t f1 _ hq0).mono ?_
        rintro e w1 ⟨rfl, hb1⟩
        rw [HSZ.out] at hb1
        go_wp2_with fail
        refine (styleValid_calls c i u _).mono ?_
        rintro e w2 ⟨rfl, hb2⟩
        replace hb2 : Below (wr.heap.size + 1) W1 w2 := hb1.trans (hb2.mono (by have := hb1.size; rw [HSZ.out] at this; exact this))
        go_wp2_with fail
        refine (HV.out ru f2 _ hb2).mono ?_
        rintro e w3 ⟨rfl, hb3⟩
        replace hb3 : Below (wr.heap.size + 1) W1 w3 := hb2.trans (hb3.mono (by have := hb2.size; rw [HSZ.out] at this; exact this))
        go_wp2_with fail
        go_ret
        exact ⟨ret_int (by rw [← HP.out, HS.out (by rw [hst.out, HEE.out]; rfl), hst.out, HEE.out]), HB.out _ hb3⟩
      · have HEE := Lib.hid he
        clear he
        have v2' : t.toList.isEmpty = false := by simpa using v2
        have v3' : decide (c ≤ 6) = true := by simpa using v3
        rcases Nat.eq_zero_or_pos k with hk0 | hk0
        · have hst := Lib.hid (show runStep (prevRun xs k) ⟨t, c, i, u, ru⟩ = 0 by rw [hk0]; simp [runStep, prevRun, HEE.out])
          have hkd : decide (0 < k) = false := by simp; omega
          clear hRr hk0
          go_wp2_with fail
          rw [HW1.out]
          refine (HV.out t f1 _ hq0).mono ?_
          rintro e w1 ⟨rfl, hb1⟩
          rw [HSZ.out] at hb1
          go_wp2_with fail
          refine (styleValid_calls c i u _).mono ?_
          rintro e w2 ⟨rfl, hb2⟩
          replace hb2 : Below (wr.heap.size + 1) W1 w2 := hb1.trans (hb2.mono (by have := hb1.size; rw [HSZ.out] at this; exact this))
          go_wp2_with fail
          refine (HV.out ru f2 _ hb2).mono ?_
          rintro e w3 ⟨rfl, hb3⟩
          replace hb3 : Below (wr.heap.size + 1) W1 w3 := hb2.trans (hb3.mono (by have := hb2.size; rw [HSZ.out] at this; exact this))
          go_wp2_with fail
          go_quiet (fail)
          go_wp2_with fail
          go_roundw
          case rel => exact ⟨k + 1, by omega, by go_num, by rw [← HN.out hst.out]; exact HP.out, below_drewN (HB0.out _ hb3) _⟩
          case measure => simp [intOf]; omega
        · obtain ⟨b', off', y, hab, _, hy, hcy, _⟩ := hRr.at_ (show k - 1 < xs.length by omega)
          simp only [Option.some.injEq, Addr.mk.injEq, and_true] at hab
          obtain ⟨rfl, rfl⟩ := hab
          have hpv : prevRun xs k = some y := by
            obtain ⟨j, rfl⟩ : ∃ j, k = j + 1 := ⟨k - 1, by omega⟩
            simp only [Nat.add_sub_cancel] at hy
            simp [prevRun, hy]
          have hst : runStep (prevRun xs k) ⟨t, c, i, u, ru⟩ = if alikeB y ⟨t, c, i, u, ru⟩ = true then 8 else 0 := by
            rw [hpv]; simp [runStep, HEE.out]
          have hpc : ∀ j v, y.enc[j]? = some v → ∀ w1, Below (wr.heap.size + 1) W1 w1 → w1.cell? ⟨b, off + (k - 1) * 5 + j, none⟩ = some v := fun j v hv w1 h => by
            rw [h.cell (p := ⟨b, off + (k - 1) * 5 + j, none⟩) (by simp; omega), ← HW1.out, World.cell?_alloc_lt _ _ _ (by simpa using hbl)]
            exact hcy j v hv
          have hal := fun w => alike_calls y ⟨t, c, i, u, ru⟩ w
          obtain ⟨yt, yc, yi, yu, yr⟩ := y
          generalize alikeB ⟨yt, yc, yi, yu, yr⟩ ⟨t, c, i, u, ru⟩ = AL at *
          have p0 := hpc 0 _ rfl; have p1 := hpc 1 _ rfl; have p2 := hpc 2 _ rfl; have p3 := hpc 3 _ rfl; have p4 := hpc 4 _ rfl
          simp only [Nat.add_zero, Run.enc] at p0 p1 p2 p3 p4 hal
          have HAL := Lib.hid hal
          have hfb := HFB.out
          have hkd : decide (0 < k) = true := by simp; omega
          have hk1 : 1 ≤ k := hk0
          have hkz : (1 : Int) ≤ (k : Int) := by omega
          have hkl : (k : Int) - 1 < (xs.length : Int) := by omega
          have hwr : IntKind.i64.wrap ((k : Int) - 1) = (k : Int) - 1 := IntWalk.i64_in _ (by omega)
          have hkn : ((k : Int) - 1).toNat = k - 1 := by omega
          clear hpc hpv hRr hcy hy hk0 hal
          cases AL
          · rw [if_neg (by decide)] at hst
            have HST := Lib.hid hst
            clear hst
            go_wp2_with fail
            rw [HW1.out]
            refine (HV.out t f1 _ hq0).mono ?_
            rintro e w1 ⟨rfl, hb1⟩
            rw [HSZ.out] at hb1
            go_wp2_with fail
            refine (styleValid_calls c i u _).mono ?_
            rintro e w2 ⟨rfl, hb2⟩
            replace hb2 : Below (wr.heap.size + 1) W1 w2 := hb1.trans (hb2.mono (by have := hb1.size; rw [HSZ.out] at this; exact this))
            go_wp2_with fail
            refine (HV.out ru f2 _ hb2).mono ?_
            rintro e w3 ⟨rfl, hb3⟩
            replace hb3 : Below (wr.heap.size + 1) W1 w3 := hb2.trans (hb3.mono (by have := hb2.size; rw [HSZ.out] at this; exact this))
            go_wp2_with fail
            have hb3d : Below (wr.heap.size + 1) W1 w3.drew := hb3.drew
            go_region_with (go_at_call 262; refine (HAL.out _).mono ?_; rintro e w4 ⟨rfl, hb4⟩; replace hb4 : Below (wr.heap.size + 1) W1 w4 := hb3d.trans (hb4.mono (by have := hb3d.size; rw [HSZ.out] at this; exact this)))
            all_goals
              go_wp2_with fail
              go_roundw
              case rel => exact ⟨k + 1, by omega, by go_num, by rw [← HN.out HST.out]; exact HP.out, HB0.out _ hb4⟩
              case measure => simp [intOf]; omega
          · rw [if_pos rfl] at hst
            have HST := Lib.hid hst
            clear hst
            go_wp2_with fail
            rw [HW1.out]
            refine (HV.out t f1 _ hq0).mono ?_
            rintro e w1 ⟨rfl, hb1⟩
            rw [HSZ.out] at hb1
            go_wp2_with fail
            refine (styleValid_calls c i u _).mono ?_
            rintro e w2 ⟨rfl, hb2⟩
            replace hb2 : Below (wr.heap.size + 1) W1 w2 := hb1.trans (hb2.mono (by have := hb1.size; rw [HSZ.out] at this; exact this))
            go_wp2_with fail
            refine (HV.out ru f2 _ hb2).mono ?_
            rintro e w3 ⟨rfl, hb3⟩
            replace hb3 : Below (wr.heap.size + 1) W1 w3 := hb2.trans (hb3.mono (by have := hb2.size; rw [HSZ.out] at this; exact this))
            go_wp2_with fail
            have hb3d : Below (wr.heap.size + 1) W1 w3.drew := hb3.drew
            go_region_with (go_at_call 262; refine (HAL.out _).mono ?_; rintro e w4 ⟨rfl, hb4⟩; replace hb4 : Below (wr.heap.size + 1) W1 w4 := hb3d.trans (hb4.mono (by have := hb3d.size; rw [HSZ.out] at this; exact this)))
            all_goals
              go_wp2_with fail
              go_ret
              exact ⟨ret_int (by rw [← HP.out, HS.out (by rw [HST.out]; rfl), HST.out]), HB.out _ hb4⟩
    · obtain rfl : k = xs.length := by omega
      rw [List.drop_length] at hp
      have HP := Lib.hid hp
      clear hp H0
      go_wp2_with fail
      go_ret
      exact ⟨ret_int (by rw [← HP.out]; cases prevRun xs xs.length <;> rfl), hb⟩
theorem rowCheck_calls (r : Row) (w : World) (hE : Env w) (hr : r.lies w) (hf : r.fits) :
    Calls Tryz.prog 212 #[.agg r.enc.toArray] w fun e w' => e = .returned (.int .i64 (rowErr r.runs)) ∧ Below w.heap.size w w' := by
  by_cases hn : 16 < r.runs.length
  · exact rowCheck_many r w hn
  · exact rowCheck_few r w hE hr hf (by omega)
end Go.Proofs.YtnlnmbcaongehaaGreatDoor
namespace Go.Proofs.YtnlnmbcaongehaaGreatDoor
open Go.RowKit
/-- Whether a span lies within the frames. -/
def spansB (a b : Int) : Bool := decide (0 ≤ a ∧ a < b ∧ b ≤ 5184000)
set_option maxHeartbeats 800000 in
theorem spans_calls (a b : Int) (w : World) : Calls Tryz.prog 154 #[.agg #[.int .i64 a, .int .i64 b]] w fun e w' => e = .returned (.bool (spansB a b)) ∧ Below w.heap.size w w' := by
  rcases (show a < 0 ∨ (0 ≤ a ∧ b ≤ a) ∨ (0 ≤ a ∧ a < b ∧ 5184000 < b) ∨ (0 ≤ a ∧ a < b ∧ b ≤ 5184000) by omega) with h | ⟨h1, h2⟩ | ⟨h1, h2, h3⟩ | ⟨h1, h2, h3⟩
  · have HS := Lib.hid (show spansB a b = false by simp [spansB]; omega)
    have h' : decide (0 ≤ a) = false := by simp; omega
    go_enter Tryz.func154, Tryz.ntmps154
    go_wp2
    go_ret
    rw [HS.out]; exact ⟨rfl, (Below.refl _ _).alloc (Nat.le_refl _) _⟩
  · have HS := Lib.hid (show spansB a b = false by simp [spansB]; omega)
    have h' : decide (a < b) = false := by simp; omega
    go_enter Tryz.func154, Tryz.ntmps154
    go_wp2
    go_ret
    rw [HS.out]; exact ⟨rfl, (Below.refl _ _).alloc (Nat.le_refl _) _⟩
  · have HS := Lib.hid (show spansB a b = false by simp [spansB]; omega)
    have h' : decide (b ≤ 5184000) = false := by simp; omega
    go_enter Tryz.func154, Tryz.ntmps154
    go_wp2
    go_ret
    rw [HS.out]; exact ⟨rfl, (Below.refl _ _).alloc (Nat.le_refl _) _⟩
  · have HS := Lib.hid (show spansB a b = true by simp [spansB]; omega)
    go_enter Tryz.func154, Tryz.ntmps154
    go_wp2
    go_ret
    rw [HS.out]; exact ⟨rfl, (Below.refl _ _).alloc (Nat.le_refl _) _⟩
/-- The name of a kind. -/
def kindName (k : Int) : ByteArray := if k = 1 then ⟨#[68, 73, 65, 76, 79, 71, 85, 69]⟩ else if k = 2 then ⟨#[83, 79, 85, 78, 68]⟩ else if k = 3 then ⟨#[84, 73, 84, 76, 69]⟩ else if k = 4 then ⟨#[77, 85, 83, 73, 67]⟩ else ⟨#[]⟩
set_option maxHeartbeats 800000 in
theorem kindName_calls (k : Int) (w : World) (h0 : 0 ≤ k) (h1 : k ≤ 255) : Calls Tryz.prog 155 #[.int .u8 k] w fun e w' => e = .returned (.string (kindName k)) ∧ Below w.heap.size w w' := by
  rcases (show k < 1 ∨ 4 < k ∨ k = 1 ∨ k = 2 ∨ k = 3 ∨ k = 4 by omega) with h | h | rfl | rfl | rfl | rfl
  · have HK := Lib.hid (show kindName k = ⟨#[]⟩ by unfold kindName; repeat rw [if_neg (by omega)])
    go_enter Tryz.func155, Tryz.ntmps155
    go_wp2
    go_ret
    rw [HK.out]; exact ⟨rfl, Below.refl _ _⟩
  · have HK := Lib.hid (show kindName k = ⟨#[]⟩ by unfold kindName; repeat rw [if_neg (by omega)])
    go_enter Tryz.func155, Tryz.ntmps155
    go_wp2
    go_ret
    rw [HK.out]; exact ⟨rfl, Below.refl _ _⟩
  all_goals
    go_enter Tryz.func155, Tryz.ntmps155
    go_wp2
    go_ret
    exact ⟨rfl, (Below.refl _ _).alloc (Nat.le_refl _) _⟩
end Go.Proofs.YtnlnmbcaongehaaGreatDoor
namespace Go.Proofs.YtnlnmbcaongehaaGreatDoor
open Go.RowKit
/-- Whether a text is empty, begins or ends with a space, or has two spaces in a row. -/
def untidy (t : ByteArray) : Bool := (t.data.toList.isEmpty || (t.data.toList.headD 0).toNat == 32) || ((t.data.toList.getLastD 0).toNat == 32 || Lib.contains t.data.toList [32, 32])
/-- The error of a row of an event. -/
def evRowErr (runs : List Run) : Int := if (rowErr runs != 0) = true then rowErr runs else if untidy (plain runs) = true then 4 else if 32 < rowLen runs then 11 else 0
theorem last_byte (s : ByteArray) (h : 0 < s.size) : s.data.toList.getLastD 0 = s[s.size - 1] := by
  have hl : s.data.toList.length = s.size := by simp
  have hne : s.data.toList ≠ [] := by intro e; rw [e] at hl; simp at hl; omega
  rw [List.getLastD_eq_getLast?, List.getLast?_eq_getElem?]
  rw [List.getElem?_eq_getElem (by omega)]
  simp only [Option.getD_some]
  have : s[s.size - 1] = s.data.toList[s.size - 1] := rfl
  simp only [this, hl]
theorem untidy_cases (t : ByteArray) : (t.size = 0 ∧ untidy t = true) ∨ (∃ h : 0 < t.size, (t[0].toNat = 32 ∧ untidy t = true) ∨ (t[0].toNat ≠ 32 ∧ t[t.size - 1].toNat = 32 ∧ untidy t = true) ∨ (t[0].toNat ≠ 32 ∧ t[t.size - 1].toNat ≠ 32 ∧ untidy t = Lib.contains t.data.toList [32, 32])) := by
  by_cases h : 0 < t.size
  · refine .inr ⟨h, ?_⟩
    have hne : t.data.toList.isEmpty = false := by
      rw [List.isEmpty_eq_false_iff]; intro e
      have hl : t.data.toList.length = t.size := by simp
      rw [e] at hl; simp at hl; omega
    unfold untidy
    rw [head_byte t h, last_byte t h, hne]
    by_cases h1 : t[0].toNat = 32
    · exact .inl ⟨h1, by simp only [h1]; simp⟩
    · by_cases h2 : t[t.size - 1].toNat = 32
      · exact .inr (.inl ⟨h1, h2, by simp only [h2]; simp⟩)
      · refine .inr (.inr ⟨h1, h2, ?_⟩)
        rw [beq_eq_false_iff_ne.2 h1, beq_eq_false_iff_ne.2 h2]
        simp
  · refine .inl ⟨by omega, ?_⟩
    have hl : t.data.toList.length = t.size := by simp
    have : t.data.toList = [] := List.eq_nil_of_length_eq_zero (by omega)
    unfold untidy
    rw [this]
    rfl
set_option maxHeartbeats 3200000 in
theorem evRow_calls (r : Row) (w : World) (hE : Env w) (hr : r.lies w) (hf : r.fits) :
    Calls Tryz.prog 156 #[.agg r.enc.toArray] w fun e w' => e = .returned (.int .i64 (evRowErr r.runs)) ∧ Below w.heap.size w w' := by
  have hC := fun w1 h1 h2 => rowCheck_calls r w1 h1 h2 hf
  have hP := fun w1 h2 => plain_calls r w1 h2 hf
  have hL := fun w1 h1 h2 => rowLen_calls r w1 h1 h2 hf
  have hps : (plain r.runs).size ≤ 4000000 := by
    have h2 := hf.2.2
    show (plainL r.runs).toArray.size ≤ 4000000
    rw [List.size_toArray, plainL_len]; exact h2
  obtain ⟨a, cap, xs⟩ := r
  simp only [Row.enc, Row.lies] at *
  generalize hG : evRowErr xs = G
  unfold evRowErr at hG
  have hun := untidy_cases (plain xs)
  generalize rowErr xs = E at *
  generalize plain xs = T at *
  generalize rowLen xs = L at *
  generalize hUt : untidy T = UT at *
  have HG := Lib.hid hG
  generalize hcs : #[Value.slice a xs.length cap] = cs at *
  have f0 := box_cell w cs 78 0 (.slice a xs.length cap) (by rw [← hcs]; rfl)
  have HB := Lib.hid (fun (w1 : World) (h : Below (w.heap.size + 1) (w.alloc (.cells cs 78)) w1) => box_below h)
  have HE := Lib.hid (fun (w1 : World) (h : Below (w.heap.size + 1) (w.alloc (.cells cs 78)) w1) => hE.below (box_below h) (Nat.le_refl _))
  have HR := Lib.hid (fun (w1 : World) (h : Below (w.heap.size + 1) (w.alloc (.cells cs 78)) w1) => hr.later (box_below h))
  have hb0 : Below (w.heap.size + 1) (w.alloc (.cells cs 78)) (w.alloc (.cells cs 78)) := Below.refl _ _
  have hsz : (w.alloc (.cells cs 78)).heap.size = w.heap.size + 1 := World.size_alloc _ _
  have HC := Lib.hid hC; have HPn := Lib.hid hP; have HL := Lib.hid hL
  generalize hW0 : w.alloc (.cells cs 78) = W0 at *
  have HW0 := Lib.hid hW0
  have HSZ := Lib.hid hsz
  clear hW0 hsz hE hr hC hP hL hG hUt
  go_enter Tryz.func156, Tryz.ntmps156
  subst hcs
  go_wp2_with fail
  rw [HW0.out]
  refine (HC.out _ (HE.out _ hb0) (HR.out _ hb0)).mono ?_
  rintro e w1 ⟨rfl, hb1⟩
  rw [HSZ.out] at hb1
  clear HW0 HC
  cases hE1 : E != 0
  · have hE0 : E = 0 := by simpa using hE1
    rw [hE1] at HG
    clear hE1
    subst hE0
    go_wp2_with fail
    refine (HPn.out _ (HR.out _ hb1)).mono ?_
    rintro e w2 ⟨rfl, hb2⟩
    replace hb2 : Below (w.heap.size + 1) W0 w2 := hb1.trans (hb2.mono (by have := hb1.size; rw [HSZ.out] at this; exact this))
    obtain ⟨m, hm⟩ := (HE.out _ hb2).2
    clear HPn
    have HCo := Lib.hid (Tryz.strings_Contains T ⟨#[32, 32]⟩ m w2 (by omega) hm)
    clear hm
    rcases hun with ⟨ht, hu⟩ | ⟨ht, ⟨h1, hu⟩ | ⟨h1, h2, hu⟩ | ⟨h1, h2, hu⟩⟩
    · have t0 : T.toList = [] := (empty_str T).1 ht
      have t1 : T.toList.isEmpty = true := by simpa using t0
      have HU := Lib.hid hu
      clear hu ht
      go_wp2_with fail
      go_ret
      exact ⟨ret_int (by rw [← HG.out, HU.out]; rfl), HB.out _ hb2⟩
    · have t0 : ¬ T.toList = [] := fun h => by have := (empty_str T).2 h; omega
      have t1 : T.toList.isEmpty = false := by simpa using t0
      have t2 : ((T[0].toNat : Int) == 32) = true := by simp only [h1]; decide
      have HU := Lib.hid hu
      clear hu h1
      go_wp2_with fail
      go_ret
      exact ⟨ret_int (by rw [← HG.out, HU.out]; rfl), HB.out _ hb2⟩
    · have t0 : ¬ T.toList = [] := fun h => by have := (empty_str T).2 h; omega
      have t1 : T.toList.isEmpty = false := by simpa using t0
      have t2 : ((T[0].toNat : Int) == 32) = false := by rw [beq_eq_false_iff_ne]; omega
      have t3 : ((T[T.size - 1].toNat : Int) == 32) = true := by simp only [h2]; decide
      have HU := Lib.hid hu
      clear hu h1 h2
      go_wp2_with fail
      go_ret
      exact ⟨ret_int (by rw [← HG.out, HU.out]; rfl), HB.out _ hb2⟩
    · have t0 : ¬ T.toList = [] := fun h => by have := (empty_str T).2 h; omega
      have t1 : T.toList.isEmpty = false := by simpa using t0
      have t2 : ((T[0].toNat : Int) == 32) = false := by rw [beq_eq_false_iff_ne]; omega
      have t3 : ((T[T.size - 1].toNat : Int) == 32) = false := by rw [beq_eq_false_iff_ne]; omega
      have hcc : Lib.contains T.data.toList (⟨#[32, 32]⟩ : ByteArray).data.toList = UT := by rw [hu]
      have HU := Lib.hid hu
      rw [hcc] at HCo
      clear hu h1 h2 hcc
      cases UT
      · rw [if_neg (by decide), if_neg (by decide)] at HG
        by_cases hL : 32 < L
        · rw [if_pos hL] at HG
          go_wp2_with (first
            | (go_at_call 214; refine HCo.out.mono ?_; rintro e w9 ⟨rfl, rfl⟩)
            | (go_at_call 215; refine (HL.out _ (HE.out _ hb2) (HR.out _ hb2)).mono ?_; rintro e w3 ⟨rfl, hb3⟩))
          go_ret
          exact ⟨ret_int HG.out, HB.out _ (hb2.trans (hb3.mono (by have := hb2.size; rw [HSZ.out] at this; exact this)))⟩
        · rw [if_neg hL] at HG
          have hL' : L ≤ 32 := by omega
          go_wp2_with (first
            | (go_at_call 214; refine HCo.out.mono ?_; rintro e w9 ⟨rfl, rfl⟩)
            | (go_at_call 215; refine (HL.out _ (HE.out _ hb2) (HR.out _ hb2)).mono ?_; rintro e w3 ⟨rfl, hb3⟩))
          go_ret
          exact ⟨ret_int HG.out, HB.out _ (hb2.trans (hb3.mono (by have := hb2.size; rw [HSZ.out] at this; exact this)))⟩
      · rw [if_neg (by decide), if_pos rfl] at HG
        go_wp2_with (go_at_call 214; refine HCo.out.mono ?_; rintro e w9 ⟨rfl, rfl⟩)
        go_ret
        exact ⟨ret_int HG.out, HB.out _ hb2⟩
  · rw [hE1, if_pos rfl] at HG
    go_wp2_with fail
    go_ret
    exact ⟨ret_int HG.out, HB.out _ hb1⟩
end Go.Proofs.YtnlnmbcaongehaaGreatDoor
