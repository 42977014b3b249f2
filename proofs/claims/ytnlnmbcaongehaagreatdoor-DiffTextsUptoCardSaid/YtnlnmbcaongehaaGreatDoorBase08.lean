/- Append, as a step of a region that draws its order. Lists of changes that grow; keys that stay. (printed by gen_diff2.py) diff.Diff from its events on, where both documents are valid. (printed by gen_diff2.py) -/
import Derived.Deep.RegionLaw
import Derived.Deep.CutBlock
import Derived.Test.YtnlnmbcaongehaaGreatDoorBase02
import Derived.Test.YtnlnmbcaongehaaGreatDoorBase07
set_option linter.unusedVariables false
set_option linter.unusedSimpArgs false
namespace Go.Proofs.YtnlnmbcaongehaaGreatDoor
open Go.RowKit
theorem step_append_at {P : Program} {ops : Array Oper} {o : Oper} {a : Act} {K : Act → World → Prop} {Q : Exit → Act → World → Prop} {E : Prop} (w : World) (cs : Array Value) (hgd : o.guard = none) (s x : Operand) (t : TypeId)
    (ho : o.op = .call { callee := .builtin .append, args := #[s, x], argTypes := #[t, t] })
    (base : Nat) (e : TypeId) (i : TypeInfo) (z : Value) (size bytes : Nat) (ht : P.underlying t = some (.slice e)) (hi : P.info? e = some i) (hz : i.zero = some z)
    (hsize : i.size = size) (hby : i.bytes = bytes) (hzs : z.cells.size = size) (hsz : 0 < size)
    (v : Value) (n : Nat) (xs : List Value) (hs : a.eval s = v) (hown : w.ownsRow base e size v n xs) (g : Nat) (hx : a.eval x = .slice (some ⟨g, 0, none⟩) 1 1) (hg : g = w.heap.size)
    (hcs : cs.size = size) (h1 : ∀ u ∈ cs.toList, u.oneCell' = true) (h63 : n + 1 ≤ maxLen) (hbytes : (n + 1) * bytes ≤ 140737488355328) (hbase : base ≤ w.heap.size)
    (h : ∀ v' w2, w2.ownsRow base e size v' (n + 1) (xs ++ cs.toList) → (w.alloc (.cells cs e)).grownBy w2 v.ownBlock → (v'.ownBlock = v.ownBlock ∨ v'.ownBlock = some (w.heap.size + 1)) → K (a.put o.dst v') w2) :
    if Region.wanted o (yielded ops a.tmps) = true then Oper.wp P o a (w.alloc (.cells cs e)) K Q else E := by
  have hw : Region.wanted o (yielded ops a.tmps) = true := by simp [Region.wanted, hgd]
  rw [if_pos hw]
  subst hg
  obtain ⟨v', w', hrun, h2, h3, _, h5⟩ := run_append_own_at (P := P) (w.alloc (.cells cs e)) base t o.type e i z size bytes ht hi hz hsize hby hzs hsz v n xs (hown.alloc _) ⟨w.heap.size, 0, none⟩ 1 1 cs.toList (by simpa using hcs) (cells_new w cs e) h1 h63 hbytes (by simp; omega)
  unfold Oper.wp execOp
  simp only [ho, resolve, invoke, builtin, Sem.run_bind, Sem.run_pure, Result.andThen_ok, List.map_toArray, List.map_cons, List.map_nil, hs, hx, hrun]
  exact h v' w' h2 h3 (by simpa using h5)
end Go.Proofs.YtnlnmbcaongehaaGreatDoor
namespace Go.Proofs.YtnlnmbcaongehaaGreatDoor
open Go.RowKit
attribute [local go_sem ↓] Go.wp_at_zero Go.wp_at_succ
/-- The changes so far. -/
def DRel (pre : List ChgC) (B : Nat) (W0 : World) (v : Value) (wr : World) : Prop := ∃ zs, GrowChg B W0 v zs wr ∧ zs.map Chg.c = pre
theorem DRel.below {pre : List ChgC} {B : Nat} {W0 : World} {v : Value} {wr : World} (h : DRel pre B W0 v wr) : Below B W0 wr := h.choose_spec.1.2.2
theorem DRel.later {pre : List ChgC} {B : Nat} {W0 : World} {v : Value} {wr w1 : World} (h : DRel pre B W0 v wr) (hB : B ≤ W0.heap.size) (hb : Below wr.heap.size wr w1) : DRel pre B W0 v w1 :=
  h.imp fun zs hz => ⟨GrowL.later Chg.deep hz.1 hB hb, hz.2⟩
/-- A row that is owned, whatever its cells are. -/
theorem DRel.owns {pre : List ChgC} {B : Nat} {W0 : World} {v : Value} {wr : World} (h : DRel pre B W0 v wr) : ∃ zs : List Chg, zs.length = pre.length ∧ wr.ownsRow B 54 59 v zs.length (zs.flatMap Chg.enc) ∧
    ∀ (y : Chg) (cs : Array Value) (v' : Value) (w2 : World), cs.toList = y.enc → w2.ownsRow B 54 59 v' (zs.length + 1) (zs.flatMap Chg.enc ++ cs.toList) → (wr.alloc (.cells cs 54)).grownBy w2 v.ownBlock → (v'.ownBlock = v.ownBlock ∨ v'.ownBlock = some (wr.heap.size + 1)) → y.lies wr → (∀ b, y.uses b → v.ownBlock ≠ some b ∧ B ≤ b) → B ≤ W0.heap.size → DRel (pre ++ [y.c]) B W0 v' w2 := by
  obtain ⟨zs, hz, he⟩ := h
  refine ⟨zs, by rw [← he, List.length_map], hz.1, fun y cs v' w2 hcs hown hg hat hy hu hB => ⟨zs ++ [y], GrowL.push Chg.deep hz hB hcs hown hg hat hy hu, by rw [List.map_append, he]; rfl⟩⟩
/-- The keys, apart from the row of the changes. -/
def KeysAt {β : Type} (enc : β → Value) (ks : List β) (a : Option Addr) (v : Value) (wr : World) : Prop := SliceOf 1 (fun k => [enc k]) Flat wr a ks ∧ ∀ b, sUses a ks b → v.ownBlock ≠ some b
theorem KeysAt.later {β : Type} {enc : β → Value} {ks : List β} {a : Option Addr} {v : Value} {wr w1 : World} (h : KeysAt enc ks a v wr) (hb : Below wr.heap.size wr w1) : KeysAt enc ks a v w1 := ⟨SliceOf.keeps Flat.keeps _ _ _ _ hb h.1, h.2⟩
theorem KeysAt.push {β : Type} {enc : β → Value} {ks : List β} {a : Option Addr} {v v' : Value} {w1 w2 : World} {cs : Array Value} (h : KeysAt enc ks a v w1) (hg : (w1.alloc (.cells cs 54)).grownBy w2 v.ownBlock) (hat : v'.ownBlock = v.ownBlock ∨ v'.ownBlock = some (w1.heap.size + 1)) : KeysAt enc ks a v' w2 := by
  have hs : w1.heap.size + 1 ≤ w2.heap.size := by
    have := hg.size
    simpa using this
  refine ⟨SliceOf.frame h.1 (by omega) (fun b hu => ?_) (fun _ _ _ => trivial), fun b hu e => ?_⟩
  · rw [hg.block b (by have := sUses_lt h.1 hu; simp; omega) (fun e => h.2 b hu e.symm)]
    exact Below.heap_alloc w1 _ b (sUses_lt h.1 hu)
  · rcases hat with e' | e'
    · exact h.2 b hu (e' ▸ e)
    · rw [e'] at e
      simp only [Option.some.injEq] at e
      have := sUses_lt h.1 hu
      omega
theorem KeysAt.of {β : Type} {enc : β → Value} {ks : List β} {kv : Value} {v : Value} {B K : Nat} {w1 : World} (ho : w1.ownsRow B K 1 kv ks.length (ks.map enc)) (hv : ∀ b, v.ownBlock = some b → b < B) : ∃ a c, kv = .slice a ks.length c ∧ KeysAt enc ks a v w1 := by
  have e : ks.map enc = ks.flatMap (fun k => [enc k]) := by
    clear ho
    induction ks with
    | nil => rfl
    | cons x l ih => rw [List.map_cons, List.flatMap_cons, ih]; rfl
  rw [e] at ho
  obtain ⟨a, c, rfl, hS⟩ := sliceOf_owns (k := 1) (enc := fun k => [enc k]) (Ok := Flat) (fun _ => rfl) ho (fun _ _ => trivial)
  refine ⟨a, c, rfl, hS, fun b hu e => ?_⟩
  obtain ⟨_, ad, rfl, rfl⟩ := hu
  have := (ho.lt ad.block rfl).1
  have := hv _ e
  omega
theorem DRel.lt {pre : List ChgC} {B : Nat} {W0 : World} {v : Value} {wr : World} (h : DRel pre B W0 v wr) : ∀ b, v.ownBlock = some b → b < wr.heap.size := fun b hb => by
  obtain ⟨zs, hz, _⟩ := h
  exact (hz.1.lt b hb).2
theorem DRel.slice {pre : List ChgC} {B : Nat} {W0 : World} {v : Value} {wr : World} (h : DRel pre B W0 v wr) : ∃ a n c, v = .slice a n c := by
  obtain ⟨zs, hz, _⟩ := h
  obtain ⟨a, c, rfl, _⟩ := GrowL.slice (k := 59) (enc := Chg.enc) Chg.len hz
  exact ⟨a, _, c, rfl⟩
theorem findD {α : Type} (p : α → Bool) (xs : List α) (z : α) : ((first p xs).map (·.1)).getD z = (xs.find? p).getD z := by rw [show (first p xs).map (·.1) = xs.find? p from firstFrom_find p xs 0]
theorem findS {α : Type} (p : α → Bool) (xs : List α) : (first p xs).isSome = (xs.find? p).isSome := by rw [← show (first p xs).map (·.1) = xs.find? p from firstFrom_find p xs 0]; simp
/-- What find returns, field by field. -/
theorem find36_val (r : Option (Reg × Nat)) : ∃ (x : Reg) (i : Int) (b : Bool), findVal36 r = .tuple #[.agg x.enc.toArray, .int .i64 i, .bool b] ∧ x = (r.map (·.1)).getD zeroReg ∧ b = r.isSome := by
  cases r with
  | none => exact ⟨_, _, _, rfl, rfl, rfl⟩
  | some q => exact ⟨_, _, _, rfl, rfl, rfl⟩
theorem find39_val (r : Option (Ev × Nat)) : ∃ (x : Ev) (i : Int) (b : Bool), findVal39 r = .tuple #[.agg x.enc.toArray, .int .i64 i, .bool b] ∧ x = (r.map (·.1)).getD zeroEv ∧ b = r.isSome := by
  cases r with
  | none => exact ⟨_, _, _, rfl, rfl, rfl⟩
  | some q => exact ⟨_, _, _, rfl, rfl, rfl⟩
theorem find43_val (r : Option (Cm × Nat)) : ∃ (x : Cm) (i : Int) (b : Bool), findVal43 r = .tuple #[.agg x.enc.toArray, .int .i64 i, .bool b] ∧ x = (r.map (·.1)).getD zeroCm ∧ b = r.isSome := by
  cases r with
  | none => exact ⟨_, _, _, rfl, rfl, rfl⟩
  | some q => exact ⟨_, _, _, rfl, rfl, rfl⟩
/-- A header in a block of its own. -/
structure HdAt (g : Nat) (x : Hd) (w : World) : Prop where
  lt : g < w.heap.size
  c0 : w.cell? ⟨g, 0, none⟩ = some (.string x.title)
  c1 : w.cell? ⟨g, 1, none⟩ = some (.string x.lang)
  c2 : w.cell? ⟨g, 2, none⟩ = some (.int .u8 x.rate)
  c3 : w.cell? ⟨g, 3, none⟩ = some (.bool x.drop)
  c4 : w.cell? ⟨g, 4, none⟩ = some (.int .i64 x.last)
  z0 : w.frozen? ⟨g, 0, none⟩ = false
  z1 : w.frozen? ⟨g, 1, none⟩ = false
  z2 : w.frozen? ⟨g, 2, none⟩ = false
  z3 : w.frozen? ⟨g, 3, none⟩ = false
  z4 : w.frozen? ⟨g, 4, none⟩ = false
def zhd : Array Value := #[.string ⟨#[]⟩, .string ⟨#[]⟩, .int .u8 0, .bool false, .int .i64 0]
theorem HdAt.of {g : Nat} {w : World} (h : w.heap[g]? = some (.cells zhd 41)) : HdAt g zeroHd w :=
  ⟨(Array.getElem?_eq_some_iff.1 h).1, cell_of_row _ _ 0 zhd 41 (0, 0) h, cell_of_row _ _ 1 zhd 41 (0, 0) h, cell_of_row _ _ 2 zhd 41 (0, 0) h, cell_of_row _ _ 3 zhd 41 (0, 0) h, cell_of_row _ _ 4 zhd 41 (0, 0) h, frozen_of_row _ _ 0 zhd 41 h, frozen_of_row _ _ 1 zhd 41 h, frozen_of_row _ _ 2 zhd 41 h, frozen_of_row _ _ 3 zhd 41 h, frozen_of_row _ _ 4 zhd 41 h⟩
theorem HdAt.later {g : Nat} {x : Hd} {w w' : World} (h : HdAt g x w) (hb : Below w.heap.size w w') : HdAt g x w' := by
  obtain ⟨l, c0, c1, c2, c3, c4, z0, z1, z2, z3, z4⟩ := h
  exact ⟨Nat.lt_of_lt_of_le l hb.size, (hb.cell (p := ⟨g, 0, none⟩) l).trans c0, (hb.cell (p := ⟨g, 1, none⟩) l).trans c1, (hb.cell (p := ⟨g, 2, none⟩) l).trans c2, (hb.cell (p := ⟨g, 3, none⟩) l).trans c3, (hb.cell (p := ⟨g, 4, none⟩) l).trans c4, (hb.frozen (p := ⟨g, 0, none⟩) l).trans z0, (hb.frozen (p := ⟨g, 1, none⟩) l).trans z1, (hb.frozen (p := ⟨g, 2, none⟩) l).trans z2, (hb.frozen (p := ⟨g, 3, none⟩) l).trans z3, (hb.frozen (p := ⟨g, 4, none⟩) l).trans z4⟩
theorem alloc_keep {w : World} {b : Nat} {o o' : Obj} (h : w.heap[b]? = some o) : (w.alloc o').heap[b]? = some o := by rw [Below.heap_alloc w o' b (Array.getElem?_eq_some_iff.1 h).1, h]
theorem hbox {w w' : World} {g : Nat} (hb : Below (w.alloc (.cells zhd 41)).heap.size (w.alloc (.cells zhd 41)) w') (hg : g = w.heap.size) : HdAt g zeroHd w' := by
  subst hg
  exact .of ((hb.block w.heap.size (by simp)).trans (heap_alloc_last w _))
theorem hbox2 {w w' : World} {g g' : Nat} (hb : Below ((w.alloc (.cells zhd 41)).alloc (.cells zhd 41)).heap.size ((w.alloc (.cells zhd 41)).alloc (.cells zhd 41)) w') (hg : g = w.heap.size) (hg' : g' = w.heap.size + 1) : HdAt g zeroHd w' ∧ HdAt g' zeroHd w' := by
  subst hg
  subst hg'
  refine ⟨.of ((hb.block w.heap.size (by simp; omega)).trans (alloc_keep (heap_alloc_last w _))), .of ((hb.block (w.heap.size + 1) (by simp)).trans ?_)⟩
  have := heap_alloc_last (w.alloc (.cells zhd 41)) (.cells zhd 41)
  rwa [World.size_alloc] at this
theorem take_snocD {α : Type} (xs : List α) (k : Nat) (x : α) (h : xs[k]? = some x) : xs.take (k + 1) = xs.take k ++ [x] := by
  rw [List.take_add_one, h]
  rfl
theorem HdAt.set {g : Nat} {x : Hd} {wq : World} (h : HdAt g zeroHd wq) : HdAt g x (((((wq.setCell ⟨g, 0, none⟩ (.string x.title)).setCell ⟨g, 1, none⟩ (.string x.lang)).setCell ⟨g, 2, none⟩ (.int .u8 x.rate)).setCell ⟨g, 3, none⟩ (.bool x.drop)).setCell ⟨g, 4, none⟩ (.int .i64 x.last)) := by
  obtain ⟨l, c0, c1, c2, c3, c4, z0, z1, z2, z3, z4⟩ := h
  refine ⟨?_, ?_, ?_, ?_, ?_, ?_, ?_, ?_, ?_, ?_, ?_⟩ <;> simp [go_sem, *]
theorem HdAt.other {g g' : Nat} {x y : Hd} {wq : World} (hg : g ≠ g') (h : HdAt g x wq) : HdAt g x (((((wq.setCell ⟨g', 0, none⟩ (.string y.title)).setCell ⟨g', 1, none⟩ (.string y.lang)).setCell ⟨g', 2, none⟩ (.int .u8 y.rate)).setCell ⟨g', 3, none⟩ (.bool y.drop)).setCell ⟨g', 4, none⟩ (.int .i64 y.last)) := by
  obtain ⟨l, c0, c1, c2, c3, c4, z0, z1, z2, z3, z4⟩ := h
  have hg' := Ne.symm hg
  refine ⟨?_, ?_, ?_, ?_, ?_, ?_, ?_, ?_, ?_, ?_, ?_⟩ <;> simp [go_sem, *]
theorem HdAt.alloc {g : Nat} {x : Hd} {wq : World} (h : HdAt g x wq) (o : Obj) : HdAt g x (wq.alloc o) := h.later ((Below.refl _ _).alloc (Nat.le_refl _) _)
theorem HdAt.new {g : Nat} {x : Hd} {wq : World} (hg : g = wq.heap.size) : HdAt g x (wq.alloc (.cells #[.string x.title, .string x.lang, .int .u8 x.rate, .bool x.drop, .int .i64 x.last] 41)) := by
  subst hg
  have h := heap_alloc_last wq (.cells x.enc.toArray 41)
  exact ⟨(Array.getElem?_eq_some_iff.1 h).1, cell_of_row _ _ 0 x.enc.toArray 41 (0, 0) h, cell_of_row _ _ 1 x.enc.toArray 41 (0, 0) h, cell_of_row _ _ 2 x.enc.toArray 41 (0, 0) h, cell_of_row _ _ 3 x.enc.toArray 41 (0, 0) h, cell_of_row _ _ 4 x.enc.toArray 41 (0, 0) h, frozen_of_row _ _ 0 x.enc.toArray 41 h, frozen_of_row _ _ 1 x.enc.toArray 41 h, frozen_of_row _ _ 2 x.enc.toArray 41 h, frozen_of_row _ _ 3 x.enc.toArray 41 h, frozen_of_row _ _ 4 x.enc.toArray 41 h⟩
/-- k keys are done. -/
def LRel {β : Type} (pre : List ChgC) (f : β → List ChgC) (enc : β → Value) (ks : List β) (a : Option Addr) (B : Nat) (W0 : World) (k : Nat) (v : Value) (wr : World) : Prop :=
  DRel (pre ++ (ks.take k).flatMap f) B W0 v wr ∧ KeysAt enc ks a v wr
theorem LRel.skip {β : Type} {pre : List ChgC} {f : β → List ChgC} {enc : β → Value} {ks : List β} {a : Option Addr} {B : Nat} {W0 : World} {k : Nat} {v : Value} {wr w1 : World} {x : β} (h : LRel pre f enc ks a B W0 k v wr) (hx : ks[k]? = some x) (hB : B ≤ W0.heap.size) (hb : Below wr.heap.size wr w1) (hf : f x = []) : LRel pre f enc ks a B W0 (k + 1) v w1 := by
  refine ⟨?_, h.2.later hb⟩
  rw [take_snocD ks k x hx, List.flatMap_append, List.flatMap_cons, hf]
  simpa using h.1.later hB hb
theorem flat_le {β : Type} (f : β → List ChgC) (hf : ∀ x, (f x).length ≤ 1) : ∀ ks : List β, (ks.flatMap f).length ≤ ks.length
  | [] => by simp
  | x :: l => by
    have := flat_le f hf l
    have := hf x
    rw [List.flatMap_cons, List.length_append, List.length_cons]
    omega
theorem LRel.push {β : Type} {pre : List ChgC} {f : β → List ChgC} {enc : β → Value} {ks : List β} {a : Option Addr} {B : Nat} {W0 : World} {k : Nat} {v : Value} {wr w1 : World} {x : β} (h : LRel pre f enc ks a B W0 k v wr) (hx : ks[k]? = some x) (hB : B ≤ W0.heap.size) (hb : Below wr.heap.size wr w1) (hf : ∀ x, (f x).length ≤ 1) :
    ∃ n xs, n ≤ pre.length + k ∧ w1.ownsRow B 54 59 v n xs ∧ ∀ (y : Chg) (cs : Array Value) (v' : Value) (w2 : World), f x = [y.c] → cs.toList = y.enc → w2.ownsRow B 54 59 v' (n + 1) (xs ++ cs.toList) → (w1.alloc (.cells cs 54)).grownBy w2 v.ownBlock → (v'.ownBlock = v.ownBlock ∨ v'.ownBlock = some (w1.heap.size + 1)) → y.lies w1 → (∀ b, y.uses b → wr.heap.size ≤ b) → LRel pre f enc ks a B W0 (k + 1) v' w2 := by
  obtain ⟨zs, hz, ho, hp⟩ := (h.1.later hB hb).owns
  refine ⟨zs.length, zs.flatMap Chg.enc, ?_, ho, fun y cs v' w2 hfx hcs hown hg hat hy hu => ⟨?_, (h.2.later hb).push hg hat⟩⟩
  · have h1 := flat_le f hf (ks.take k)
    have h2 : (ks.take k).length ≤ k := by rw [List.length_take]; omega
    rw [hz, List.length_append]
    omega
  · have := hp y cs v' w2 hcs hown hg hat hy (fun b hb' => ⟨fun e => ?_, ?_⟩) hB
    · rw [take_snocD ks k x hx, List.flatMap_append, List.flatMap_cons, hfx, ← List.append_assoc]
      simpa using this
    · have h1 := h.1.lt b e
      have h2 := hu b hb'
      omega
    · have h2 := hu b hb'
      have h3 := h.1.below.size
      omega
theorem chgReg_of (xs ys : List Reg) (k : ByteArray) : chgReg xs ys k = if ((first (fun x : Reg => x.name.toList == k.toList) xs).isSome != (first (fun x : Reg => x.name.toList == k.toList) ys).isSome || !regEq (((first (fun x : Reg => x.name.toList == k.toList) xs).map (·.1)).getD zeroReg) (((first (fun x : Reg => x.name.toList == k.toList) ys).map (·.1)).getD zeroReg)) = true then
    [⟨2, 0, k, !(first (fun x : Reg => x.name.toList == k.toList) xs).isSome, !(first (fun x : Reg => x.name.toList == k.toList) ys).isSome, zeroHd, zeroHd, ((first (fun x : Reg => x.name.toList == k.toList) xs).map (·.1)).getD zeroReg, ((first (fun x : Reg => x.name.toList == k.toList) ys).map (·.1)).getD zeroReg, zeroEvC, zeroEvC, zeroCm, zeroCm⟩] else [] := by
  rw [findD, findD, findS, findS]
  rfl
theorem chgEv_of (xs ys : List Ev) (k : Int) : chgEv xs ys k = if ((first (fun x : Ev => x.id == k) xs).isSome != (first (fun x : Ev => x.id == k) ys).isSome || !evEq (((first (fun x : Ev => x.id == k) xs).map (·.1)).getD zeroEv) (((first (fun x : Ev => x.id == k) ys).map (·.1)).getD zeroEv)) = true then
    [⟨3, k, ⟨#[]⟩, !(first (fun x : Ev => x.id == k) xs).isSome, !(first (fun x : Ev => x.id == k) ys).isSome, zeroHd, zeroHd, zeroReg, zeroReg, (((first (fun x : Ev => x.id == k) xs).map (·.1)).getD zeroEv).c, (((first (fun x : Ev => x.id == k) ys).map (·.1)).getD zeroEv).c, zeroCm, zeroCm⟩] else [] := by
  rw [findD, findD, findS, findS]
  rfl
theorem chgCm_of (xs ys : List Cm) (k : Int) : chgCm xs ys k = if ((first (fun x : Cm => x.id == k) xs).isSome != (first (fun x : Cm => x.id == k) ys).isSome || !cmEq (((first (fun x : Cm => x.id == k) xs).map (·.1)).getD zeroCm) (((first (fun x : Cm => x.id == k) ys).map (·.1)).getD zeroCm)) = true then
    [⟨4, k, ⟨#[]⟩, !(first (fun x : Cm => x.id == k) xs).isSome, !(first (fun x : Cm => x.id == k) ys).isSome, zeroHd, zeroHd, zeroReg, zeroReg, zeroEvC, zeroEvC, ((first (fun x : Cm => x.id == k) xs).map (·.1)).getD zeroCm, ((first (fun x : Cm => x.id == k) ys).map (·.1)).getD zeroCm⟩] else [] := by
  rw [findD, findD, findS, findS]
  rfl
theorem chgReg_le (xs ys : List Reg) (k : ByteArray) : (chgReg xs ys k).length ≤ 1 := by unfold chgReg; split <;> simp
theorem chgEv_le (xs ys : List Ev) (k : Int) : (chgEv xs ys k).length ≤ 1 := by unfold chgEv; split <;> simp
theorem chgCm_le (xs ys : List Cm) (k : Int) : (chgCm xs ys k).length ≤ 1 := by unfold chgCm; split <;> simp
theorem chgHead_le (x y : Hd) : (chgHead x y).length ≤ 1 := by unfold chgHead; split <;> simp
theorem flat_chg (y : Chg) (h1 : y.oe = zeroEv) (h2 : y.ne = zeroEv) (w : World) : y.lies w ∧ ∀ b, ¬ y.uses b := by
  obtain ⟨_, _, _, _, _, _, _, _, _, oe, ne, _, _⟩ := y
  simp only at h1 h2
  subst h1
  subst h2
  exact ⟨⟨zeroEv_lies w, zeroEv_lies w⟩, fun b hu => hu.elim (zeroEv_uses b) (zeroEv_uses b)⟩
/-- Two blocks are as they were. -/
def BoxKeep (w5 : World) (g1 g2 : Nat) (w' : World) : Prop := w'.heap[g1]? = w5.heap[g1]? ∧ w'.heap[g2]? = w5.heap[g2]?
theorem BoxKeep.of {w5 w' : World} {g1 g2 : Nat} (h1 : g1 < w5.heap.size) (h2 : g2 < w5.heap.size) (h : Below w5.heap.size w5 w') : BoxKeep w5 g1 g2 w' := ⟨h.block _ h1, h.block _ h2⟩
theorem BoxKeep.grown {w5 w7 w8 : World} {g1 g2 : Nat} {cs : Array Value} {row : Option Nat} (h : BoxKeep w5 g1 g2 w7) (h1 : g1 < w7.heap.size) (h2 : g2 < w7.heap.size) (hg : (w7.alloc (.cells cs 54)).grownBy w8 row) (hr : ∀ b, row = some b → b < g1 ∧ b < g2) : BoxKeep w5 g1 g2 w8 :=
  ⟨by
    rw [hg.block g1 (by simp; omega) (fun e => by have := (hr g1 e.symm).1; omega), Below.heap_alloc w7 _ g1 h1]
    exact h.1, by
    rw [hg.block g2 (by simp; omega) (fun e => by have := (hr g2 e.symm).2; omega), Below.heap_alloc w7 _ g2 h2]
    exact h.2⟩
theorem ev_got {w : World} {a : Option Addr} {xs : List Ev} (h : EvsAt w a xs) (hf : ∀ x ∈ xs, x.fits) (p : Ev → Bool) : (∀ w1, Below w.heap.size w w1 → (((first p xs).map (·.1)).getD zeroEv).lies w1) ∧ (((first p xs).map (·.1)).getD zeroEv).rows.length ≤ 4000000 ∧ ∀ r ∈ (((first p xs).map (·.1)).getD zeroEv).rows, r.runs.length ≤ 4000000 := by
  cases hfi : first p xs with
  | none => exact ⟨fun w1 _ => zeroEv_lies w1, by simp [zeroEv], fun r hr => by simp [zeroEv] at hr⟩
  | some q =>
    obtain ⟨x, k⟩ := q
    obtain ⟨_, hk, _⟩ := firstFrom_get p xs 0 x k hfi
    simp only [Nat.sub_zero] at hk
    have hx := hf x (List.mem_of_getElem? hk)
    obtain ⟨b, off, y, _, _, hy, _, hl⟩ := h.at_ (List.getElem?_eq_some_iff.1 hk).1
    obtain rfl : x = y := by rw [hk] at hy; exact Option.some.inj hy
    exact ⟨fun w1 hb => Ev.keeps _ _ _ hb hl, hx.2.2.2.2.2.2.2.2, fun r hr => (hx.2.2.2.2.2.2.2.1 r hr).2.1⟩
theorem len_compact {α : Type} [Inhabited α] [DecidableEq α] (xs : List α) (n : Nat) (h : xs.length ≤ n) : (Lib.compact xs).length ≤ n := Nat.le_trans (Lib.compact_length_le xs) h
end Go.Proofs.YtnlnmbcaongehaaGreatDoor
namespace Go.Proofs.YtnlnmbcaongehaaGreatDoor
open Go.RowKit
attribute [local go_sem ↓] Go.wp_at_zero Go.wp_at_succ
/-- Does a piece of code begin with a region? -/
def headIs (n : Nat) : Code → Bool
  | .region id _ _ => id == n
  | .seq a _ => headIs n a
  | _ => false
/-- The greatest piece of code that begins with a region. -/
def codeFrom (n : Nat) : Code → Option Code
  | .seq a b => if headIs n (.seq a b) = true then some (.seq a b) else (codeFrom n a).orElse fun _ => codeFrom n b
  | .block _ c => codeFrom n c
  | .loop c => codeFrom n c
  | .cond _ a b => (codeFrom n a).orElse fun _ => codeFrom n b
  | _ => none
set_option maxRecDepth 100000 in
set_option maxHeartbeats 12800000 in
theorem diff_rest (a b : Doc) (w wc : World) (ha : a.lies w) (hb : b.lies w) (hfa : a.fits) (hfb : b.fits) (h0 : docErr a = 0) (h1 : docErr b = 0) (av : Option Addr) (an ac : Nat) (hcut : DRel (chgHead a.hd b.hd ++ (Lib.compact (sortS ((a.regs ++ b.regs).map (fun x : Reg => x.name.data.toList)))).flatMap (fun l => chgReg a.regs b.regs ⟨l.toArray⟩)) (w.heap.size + 2) ((w.alloc (.cells a.enc.toArray 27)).alloc (.cells b.enc.toArray 27)) (.slice av an ac) wc) (s0 s1 s4 s5 s6 s7 s8 s10 s11 s12 s13 s14 s15 s16 s17 s18 s19 s20 s21 s22 s23 s24 s25 s26 s27 s28 s29 s30 s31 s32 s33 s34 s35 s36 s37 s38 s39 s40 s41 s42 s43 s44 s45 s46 s47 s48 s49 s50 s51 s52 s53 s54 s55 s56 s57 s58 s59 s60 s61 s62 s63 s64 s65 s66 s67 s68 s69 s70 s71 s72 s73 s74 s75 s76 s77 s78 s79 s80 s81 s82 s83 s84 s85 s86 s87 s88 s89 s90 s91 s92 s93 s94 s95 s96 s97 s98 s99 s100 s101 s102 s103 s104 s105 s106 s107 s108 s109 s110 s111 s112 s113 s114 s115 s116 s117 s118 s119 s120 s121 s122 s123 s124 s125 s126 s127 s128 s129 s130 s131 s132 s133 s134 s135 s136 s137 s138 s139 s140 s141 s142 s143 s144 s145 s146 s147 s148 s149 s150 s151 s152 s153 s154 s155 s156 s157 s158 s159 s160 s161 s162 s163 s164 s165 s166 s167 s168 s169 s170 s171 s172 s173 s174 s175 s176 s177 s178 s179 s180 s181 s182 s183 s184 s185 s186 s187 s188 s189 s190 s191 s192 s193 s194 s195 s196 s197 s198 s199 s200 s201 s202 s203 s204 : Value) :
    Code.wp Tryz.prog ((codeFrom 20 (Tryz.f11.body.getD .skip)).getD .skip) (bodyPost Tryz.prog Tryz.f11 (DiffPost a b w)) { tmps := #[s0, s1, .pointer (some ⟨w.heap.size, 0, none⟩), .pointer (some ⟨w.heap.size + 1, 0, none⟩), s4, s5, s6, s7, s8, .slice av an ac, s10, s11, s12, s13, s14, s15, s16, s17, s18, s19, s20, s21, s22, s23, s24, s25, s26, s27, s28, s29, s30, s31, s32, s33, s34, s35, s36, s37, s38, s39, s40, s41, s42, s43, s44, s45, s46, s47, s48, s49, s50, s51, s52, s53, s54, s55, s56, s57, s58, s59, s60, s61, s62, s63, s64, s65, s66, s67, s68, s69, s70, s71, s72, s73, s74, s75, s76, s77, s78, s79, s80, s81, s82, s83, s84, s85, s86, s87, s88, s89, s90, s91, s92, s93, s94, s95, s96, s97, s98, s99, s100, s101, s102, s103, s104, s105, s106, s107, s108, s109, s110, s111, s112, s113, s114, s115, s116, s117, s118, s119, s120, s121, s122, s123, s124, s125, s126, s127, s128, s129, s130, s131, s132, s133, s134, s135, s136, s137, s138, s139, s140, s141, s142, s143, s144, s145, s146, s147, s148, s149, s150, s151, s152, s153, s154, s155, s156, s157, s158, s159, s160, s161, s162, s163, s164, s165, s166, s167, s168, s169, s170, s171, s172, s173, s174, s175, s176, s177, s178, s179, s180, s181, s182, s183, s184, s185, s186, s187, s188, s189, s190, s191, s192, s193, s194, s195, s196, s197, s198, s199, s200, s201, s202, s203, s204], defers := [] } wc := by
  have HQ := Lib.hid (fun (v : Value) (W0 w' : World) (hB : w.heap.size + 2 ≤ W0.heap.size) (hW : Below w.heap.size w W0) (h2 : DRel (chgs a b) (w.heap.size + 2) W0 v w') => (show DiffPost a b w (.returned (.tuple #[v, .int .i64 0])) w' from by
    unfold DiffPost
    rw [if_neg (by simpa using h0), if_neg (by simpa using h1)]
    obtain ⟨zs, ⟨h4, h5, h6⟩, h3⟩ := h2
    exact ⟨v, zs, rfl, ⟨⟨h4.1, h4.2.imp id (fun ⟨g, cap, cur, q1, q2, q3⟩ => ⟨g, cap, cur, q1, by omega, q3⟩)⟩, fun z hz => ⟨(h5 z hz).1, fun b hu => ⟨((h5 z hz).2 b hu).1, by have := ((h5 z hz).2 b hu).2; omega⟩⟩, hW.trans (h6.mono (by omega))⟩, h3⟩))

  have HHA := Lib.hid (fun w1 => head_calls a w1)
  have HHB := Lib.hid (fun w1 => head_calls b w1)
  have HKR := Lib.hid (fun (w1 : World) (h : Below w.heap.size w w1) => keys34_calls Flat.keeps a.ra b.ra a.rc b.rc a.regs b.regs w1 (ha.1.later h) (hb.1.later h) hfa.2.2.2.2.2.2.1 hfb.2.2.2.2.2.2.1)
  have HKE := Lib.hid (fun (w1 : World) (h : Below w.heap.size w w1) => keys37_calls Ev.keeps a.ea b.ea a.ec b.ec a.evs b.evs w1 (ha.2.1.later h) (hb.2.1.later h) hfa.2.2.2.2.2.2.2.2.1 hfb.2.2.2.2.2.2.2.2.1)
  have HKC := Lib.hid (fun (w1 : World) (h : Below w.heap.size w w1) => keys41_calls Flat.keeps a.ca b.ca a.cc b.cc a.cms b.cms w1 (ha.2.2.later h) (hb.2.2.later h) hfa.2.2.2.2.2.2.2.2.2.2 hfb.2.2.2.2.2.2.2.2.2.2)
  have HFA := Lib.hid (fun (k : ByteArray) (w1 : World) (h : Below w.heap.size w w1) => find36_calls Flat.keeps a.ra a.rc a.regs k w1 (ha.1.later h) (by have := hfa.2.2.2.2.2.2.1; omega))
  have HFB := Lib.hid (fun (k : ByteArray) (w1 : World) (h : Below w.heap.size w w1) => find36_calls Flat.keeps b.ra b.rc b.regs k w1 (hb.1.later h) (by have := hfb.2.2.2.2.2.2.1; omega))
  have HGA := Lib.hid (fun (k : Int) (w1 : World) (h : Below w.heap.size w w1) => find39_calls Ev.keeps a.ea a.ec a.evs k w1 (ha.2.1.later h) (by have := hfa.2.2.2.2.2.2.2.2.1; omega))
  have HGB := Lib.hid (fun (k : Int) (w1 : World) (h : Below w.heap.size w w1) => find39_calls Ev.keeps b.ea b.ec b.evs k w1 (hb.2.1.later h) (by have := hfb.2.2.2.2.2.2.2.2.1; omega))
  have HEVA := Lib.hid (fun (p : Ev → Bool) => ev_got ha.2.1 hfa.2.2.2.2.2.2.2.1 p)
  have HEVB := Lib.hid (fun (p : Ev → Bool) => ev_got hb.2.1 hfb.2.2.2.2.2.2.2.1 p)
  have HMA := Lib.hid (fun (k : Int) (w1 : World) (h : Below w.heap.size w w1) => find43_calls Flat.keeps a.ca a.cc a.cms k w1 (ha.2.2.later h) (by have := hfa.2.2.2.2.2.2.2.2.2.2; omega))
  have HMB := Lib.hid (fun (k : Int) (w1 : World) (h : Below w.heap.size w w1) => find43_calls Flat.keeps b.ca b.cc b.cms k w1 (hb.2.2.later h) (by have := hfb.2.2.2.2.2.2.2.2.2.2; omega))
  have HCH := Lib.hid (show ((chgHead a.hd b.hd ++ (Lib.compact (sortS ((a.regs ++ b.regs).map (fun x : Reg => x.name.data.toList)))).flatMap (fun l => chgReg a.regs b.regs ⟨l.toArray⟩)) ++ (Lib.compact (sortI ((a.evs ++ b.evs).map (fun x : Ev => x.id)))).flatMap (chgEv a.evs b.evs)) ++ (Lib.compact (sortI ((a.cms ++ b.cms).map (fun x : Cm => x.id)))).flatMap (chgCm a.cms b.cms) = chgs a b by
    unfold chgs chgsOf regKeys evKeys cmKeys
    rw [List.flatMap_map, List.append_assoc, List.append_assoc])
  have hll : (Lib.compact (sortS ((a.regs ++ b.regs).map (fun x : Reg => x.name.data.toList)))).length ≤ 8000000 := len_compact _ _ (by unfold sortS; rw [List.length_mergeSort, List.length_map, List.length_append]; have := hfa.2.2.2.2.2.2.1; have := hfb.2.2.2.2.2.2.1; omega)
  have hel : (Lib.compact (sortI ((a.evs ++ b.evs).map (fun x : Ev => x.id)))).length ≤ 8000000 := len_compact _ _ (by unfold sortI; rw [List.length_mergeSort, List.length_map, List.length_append]; have := hfa.2.2.2.2.2.2.2.2.1; have := hfb.2.2.2.2.2.2.2.2.1; omega)
  have hcl : (Lib.compact (sortI ((a.cms ++ b.cms).map (fun x : Cm => x.id)))).length ≤ 8000000 := len_compact _ _ (by unfold sortI; rw [List.length_mergeSort, List.length_map, List.length_append]; have := hfa.2.2.2.2.2.2.2.2.2.2; have := hfb.2.2.2.2.2.2.2.2.2.2; omega)
  generalize Lib.compact (sortS ((a.regs ++ b.regs).map (fun x : Reg => x.name.data.toList))) = ls at *
  generalize Lib.compact (sortI ((a.evs ++ b.evs).map (fun x : Ev => x.id))) = es at *
  generalize Lib.compact (sortI ((a.cms ++ b.cms).map (fun x : Cm => x.id))) = cs at *
  generalize chgs a b = CHG at *
  generalize hhd : a.hd = hd1 at *
  generalize hhd' : b.hd = hd2 at *
  generalize DiffPost a b w = Q at *
  obtain ⟨title, lang, rate, drop, last, ra, rc, regs, ea, ec, evs, ca, cc, cms⟩ := a
  obtain ⟨title', lang', rate', drop', last', ra', rc', regs', ea', ec', evs', ca', cc', cms'⟩ := b
  simp only [Doc.enc, Doc.hd] at *
  generalize hds : #[Value.string title, .string lang, .int .u8 rate, .bool drop, .int .i64 last, .slice ra regs.length rc, .slice ea evs.length ec, .slice ca cms.length cc] = ds at *
  generalize hqs : #[Value.string title', .string lang', .int .u8 rate', .bool drop', .int .i64 last', .slice ra' regs'.length rc', .slice ea' evs'.length ec', .slice ca' cms'.length cc'] = qs at *
  have f0 := box2_fst w ds qs 27 27 0 (.string title) (by rw [← hds]; rfl)
  have f1 := box2_fst w ds qs 27 27 1 (.string lang) (by rw [← hds]; rfl)
  have f2 := box2_fst w ds qs 27 27 2 (.int .u8 rate) (by rw [← hds]; rfl)
  have f3 := box2_fst w ds qs 27 27 3 (.bool drop) (by rw [← hds]; rfl)
  have f4 := box2_fst w ds qs 27 27 4 (.int .i64 last) (by rw [← hds]; rfl)
  have f5 := box2_fst w ds qs 27 27 5 (.slice ra regs.length rc) (by rw [← hds]; rfl)
  have f6 := box2_fst w ds qs 27 27 6 (.slice ea evs.length ec) (by rw [← hds]; rfl)
  have f7 := box2_fst w ds qs 27 27 7 (.slice ca cms.length cc) (by rw [← hds]; rfl)
  have g0 := box2_snd w ds qs 27 27 0 (.string title') (by rw [← hqs]; rfl)
  have g1 := box2_snd w ds qs 27 27 1 (.string lang') (by rw [← hqs]; rfl)
  have g2 := box2_snd w ds qs 27 27 2 (.int .u8 rate') (by rw [← hqs]; rfl)
  have g3 := box2_snd w ds qs 27 27 3 (.bool drop') (by rw [← hqs]; rfl)
  have g4 := box2_snd w ds qs 27 27 4 (.int .i64 last') (by rw [← hqs]; rfl)
  have g5 := box2_snd w ds qs 27 27 5 (.slice ra' regs'.length rc') (by rw [← hqs]; rfl)
  have g6 := box2_snd w ds qs 27 27 6 (.slice ea' evs'.length ec') (by rw [← hqs]; rfl)
  have g7 := box2_snd w ds qs 27 27 7 (.slice ca' cms'.length cc') (by rw [← hqs]; rfl)
  have HB := Lib.hid (fun (w1 : World) (h : Below (w.heap.size + 2) ((w.alloc (.cells ds 27)).alloc (.cells qs 27)) w1) => box2_below h)
  have hb0 : Below (w.heap.size + 2) ((w.alloc (.cells ds 27)).alloc (.cells qs 27)) ((w.alloc (.cells ds 27)).alloc (.cells qs 27)) := Below.refl _ _
  have hsz : ((w.alloc (.cells ds 27)).alloc (.cells qs 27)).heap.size = w.heap.size + 2 := by simp
  generalize hW0 : (w.alloc (.cells ds 27)).alloc (.cells qs 27) = W0 at *
  have HW0 := Lib.hid hW0
  have HSZ := Lib.hid hsz
  have HT0 := Lib.hid (fun (w2 w3 : World) (h : Below (w.heap.size + 2) W0 w2) (h3 : Below w2.heap.size w2 w3) => (h.trans (h3.mono (by have := h.size; rw [HSZ.out] at this; exact this)) : Below (w.heap.size + 2) W0 w3))
  have HLT := Lib.hid (fun (w2 : World) (h : Below (w.heap.size + 2) W0 w2) => (show w.heap.size + 2 ≤ w2.heap.size by have := h.size; rw [HSZ.out] at this; exact this))
  have HWW := Lib.hid (HB.out _ hb0)
  have hBW : w.heap.size + 2 ≤ W0.heap.size := by rw [HSZ.out]; exact Nat.le_refl _
  obtain ⟨j0, jz, hj, hy0, hy1, hy2, hy3⟩ := chgInfo
  have JI := Lib.hid hj; have J0 := Lib.hid hy0; have J1 := Lib.hid hy1; have J2 := Lib.hid hy2; have J3 := Lib.hid hy3
  clear hW0 hsz ha hb hfa hfb h0 h1 hj hy0 hy1 hy2 hy3
  subst hds
  subst hqs
  have hbc := hcut.below
  have hpl := chgHead_le hd1 hd2
  subst hhd
  subst hhd'
  generalize chgHead _ _ = P0 at *
  conv => arg 2; whnf
  have HD := Lib.hid hcut
  clear hcut
  go_wp2_with fail
  refine (HKE.out _ (HB.out _ hbc)).mono ?_
  rintro e w3 ⟨kv, rfl, ho, hb3⟩
  obtain ⟨ka, kc, rfl, hKA⟩ := KeysAt.of (v := .slice av an ac) ho HD.out.lt
  have HL0 := Lib.hid (show LRel (P0 ++ ls.flatMap (fun l => chgReg regs regs' ⟨l.toArray⟩)) (chgEv evs evs') (Value.int .i64) es ka (w.heap.size + 2) W0 0 (.slice av an ac) w3 from ⟨by simpa using HD.out.later hBW hb3, hKA⟩)
  clear ho hb3 hKA HD hbc
  go_upto_block 4 with fail
  go_cut [9] (fun s9 wx => DRel (P0 ++ ls.flatMap (fun l => chgReg regs regs' ⟨l.toArray⟩) ++ es.flatMap (chgEv evs evs')) (w.heap.size + 2) W0 s9 wx)
  case first =>
    go_wp2_with fail
    go_loopw [9, 115] (fun s9 i wr => ∃ k : Nat, k ≤ es.length ∧ i = .int .i64 k ∧ LRel (P0 ++ ls.flatMap (fun l => chgReg regs regs' ⟨l.toArray⟩)) (chgEv evs evs') (Value.int .i64) es ka (w.heap.size + 2) W0 k s9 wr) (fun _ i _ => es.length - (intOf i).toNat)
    case atStart => exact ⟨0, by omega, rfl, HL0.out⟩
    case round =>
      clear HL0
      obtain ⟨k, hk, rfl, hR⟩ := hrel
      have hbr := hR.1.below
      obtain ⟨av, an, ac, rfl⟩ := hR.1.slice
      by_cases hlt : k < es.length
      · obtain ⟨kb, ko, l, rfl, hkl, hlk, hkc, _⟩ := hR.2.1.at_ hlt
        have q0 := hkc 0 _ rfl
        obtain ⟨kn, hkn⟩ : ∃ kn : Int, kn = l := ⟨_, rfl⟩
        have HPU := Lib.hid (fun (w1 : World) (hb : Below wr.heap.size wr w1) => LRel.push hR hlk hBW hb (fun x => chgEv_le _ _ _))
        have HSK := Lib.hid (fun (w1 : World) (hb : Below wr.heap.size wr w1) (hf : chgEv evs evs' kn = []) => LRel.skip hR hlk hBW hb (hkn ▸ hf))
        obtain ⟨x, i1, t1, hv1, hx1, ht1⟩ := find39_val (first (fun x : Ev => x.id == kn) evs)
        obtain ⟨y, i2, t2, hv2, hx2, ht2⟩ := find39_val (first (fun x : Ev => x.id == kn) evs')
        have HCH := Lib.hid (show chgEv evs evs' kn = if (t1 != t2 || !evEq x y) = true then [⟨3, kn, ⟨#[]⟩, !t1, !t2, zeroHd, zeroHd, zeroReg, zeroReg, x.c, y.c, zeroCm, zeroCm⟩] else [] by rw [chgEv_of, hx1, hx2, ht1, ht2])
        have HF1 := Lib.hid (fun (w1 : World) (h : Below (w.heap.size + 2) W0 w1) => (show Calls Tryz.prog 39 #[.slice ea evs.length ec, .func (.func 38) #[] #[], .int .i64 kn] w1 (fun e w' => e = .returned (.tuple #[.agg x.enc.toArray, .int .i64 i1, .bool t1]) ∧ Below w1.heap.size w1 w') from (HGA.out kn w1 (HB.out _ h)).mono (fun e w' p => ⟨by rw [← hv1]; exact p.1, p.2⟩)))
        have HF2 := Lib.hid (fun (w1 : World) (h : Below (w.heap.size + 2) W0 w1) => (show Calls Tryz.prog 39 #[.slice ea' evs'.length ec', .func (.func 38) #[] #[], .int .i64 kn] w1 (fun e w' => e = .returned (.tuple #[.agg y.enc.toArray, .int .i64 i2, .bool t2]) ∧ Below w1.heap.size w1 w') from (HGB.out kn w1 (HB.out _ h)).mono (fun e w' p => ⟨by rw [← hv2]; exact p.1, p.2⟩)))
        have hpr1 := flat_le (fun l => chgReg regs regs' ⟨l.toArray⟩) (fun x => chgReg_le _ _ _) ls
        have hpre : (P0 ++ ls.flatMap (fun l => chgReg regs regs' ⟨l.toArray⟩)).length ≤ 8000001 := by rw [List.length_append]; omega
        have HXL := Lib.hid (show (∀ w1, Below w.heap.size w w1 → x.lies w1) ∧ x.rows.length ≤ 4000000 ∧ (∀ r ∈ x.rows, r.runs.length ≤ 4000000) from by rw [hx1]; exact HEVA.out _)
        have HYL := Lib.hid (show (∀ w1, Below w.heap.size w w1 → y.lies w1) ∧ y.rows.length ≤ 4000000 ∧ (∀ r ∈ y.rows, r.runs.length ≤ 4000000) from by rw [hx2]; exact HEVB.out _)
        simp only [← hkn, Nat.add_zero, Nat.mul_one] at q0 HPU
        have HROW := Lib.hid hR.1.lt
        have HBR := Lib.hid hbr
        have hbs := HLT.out _ hbr
        clear hR hkc hlk hkn hv1 hv2 hx1 hx2 ht1 ht2
        have HES := Lib.hid (fun (w1 : World) (h : Below (w.heap.size + 2) W0 w1) => evSame_calls x y w1 (HXL.out.1 w1 (HB.out _ h)) (HYL.out.1 w1 (HB.out _ h)) HXL.out.2.2 HYL.out.2.2 HXL.out.2.1)
        have HCX := Lib.hid (fun (w1 : World) (h : Below (w.heap.size + 2) W0 w1) => evClone_calls x w1 (HXL.out.1 w1 (HB.out _ h)) HXL.out.2.2 HXL.out.2.1)
        have HCY := Lib.hid (fun (w1 : World) (h : Below (w.heap.size + 2) W0 w1) => evClone_calls y w1 (HYL.out.1 w1 (HB.out _ h)) HYL.out.2.2 HYL.out.2.1)
        generalize hEQ : evEq x y = EQ at HCH HES
        generalize hXC : x.c = XC at HCH HCX
        generalize hYC : y.c = YC at HCH HCY
        clear hEQ hXC hYC HXL HYL
        obtain ⟨xid, xin, xout, xreg, xkind, xsp, xa, xc, xrows⟩ := x
        obtain ⟨yid, yin, yout, yreg, ykind, ysp, ya, yc, yrows⟩ := y
        simp only [Ev.enc] at HF1 HF2 HES HCX HCY
        go_upto_block 5 with fail
        go_cut [9] (fun s9 wx => LRel (P0 ++ ls.flatMap (fun l => chgReg regs regs' ⟨l.toArray⟩)) (chgEv evs evs') (Value.int .i64) es (some ⟨kb, ko, none⟩) (w.heap.size + 2) W0 (k + 1) s9 wx)
        case first =>
          go_wp2_with fail
          refine (HF1.out _ hbr).mono ?_
          rintro e w3 ⟨rfl, hb3⟩
          have hc3 := HT0.out _ _ hbr hb3
          have ha3 : ∀ o, Below (w.heap.size + 2) W0 (w3.alloc o) := fun o => hc3.alloc (HLT.out _ hc3) o
          have H3 := Lib.hid hb3
          clear hb3 HF1 q0
          go_wp2_with fail
          refine (HF2.out _ (ha3 _)).mono ?_
          rintro e w4 ⟨rfl, hb4⟩
          have hc4 := HT0.out _ _ (ha3 _) hb4
          have hs4 : w3.heap.size + 1 ≤ w4.heap.size := by have := hb4.size; simpa using this
          have hk4 : w4.heap[w3.heap.size]? = some (.cells #[.int .i64 xid, .int .i64 xin, .int .i64 xout, .string xreg, .int .u8 xkind, .string xsp, .slice xa xrows.length xc] 50 (0, 0)) := (hb4.block _ (by simp)).trans (heap_alloc_last w3 _)
          have HBX := Lib.hid (show Below wr.heap.size wr w4 from (H3.out.alloc H3.out.size _).trans (hb4.mono (by have := H3.out.size; simp; omega)))
          obtain ⟨wy, hwy⟩ : ∃ wy, wy = w4.alloc (.cells #[.int .i64 yid, .int .i64 yin, .int .i64 yout, .string yreg, .int .u8 ykind, .string ysp, .slice ya yrows.length yc] 50) := ⟨_, rfl⟩
          have hcy : Below (w.heap.size + 2) W0 wy := hwy ▸ hc4.alloc (HLT.out _ hc4) _
          have HBY := Lib.hid (show Below wr.heap.size wr wy from hwy ▸ HBX.out.alloc (by have := HBX.out.size; omega) _)
          have hky : wy.heap[w4.heap.size]? = some (.cells #[.int .i64 yid, .int .i64 yin, .int .i64 yout, .string yreg, .int .u8 ykind, .string ysp, .slice ya yrows.length yc] 50 (0, 0)) := hwy ▸ heap_alloc_last w4 _
          have hkx : wy.heap[w3.heap.size]? = some (.cells #[.int .i64 xid, .int .i64 xin, .int .i64 xout, .string xreg, .int .u8 xkind, .string xsp, .slice xa xrows.length xc] 50 (0, 0)) := hwy ▸ alloc_keep hk4
          have hly : w4.heap.size + 1 ≤ wy.heap.size := by rw [hwy]; simp
          have HKX := Lib.hid hkx
          have HKY := Lib.hid hky
          have hw34 : wr.heap.size ≤ w3.heap.size := H3.out.size
          have HWY := Lib.hid hwy
          have bx : ∀ (w' : World), Below wy.heap.size wy w' → ∀ (j : Nat), w'.cell? ⟨w3.heap.size, j, none⟩ = _ := fun w' h j => cell_of_row _ _ j _ 50 (0, 0) ((h.block _ (by omega)).trans hkx)
          have by_ : ∀ (w' : World), Below wy.heap.size wy w' → ∀ (j : Nat), w'.cell? ⟨w4.heap.size, j, none⟩ = _ := fun w' h j => cell_of_row _ _ j _ 50 (0, 0) ((h.block _ (by omega)).trans hky)
          have hyy : Below wy.heap.size wy wy := Below.refl _ _
          clear hb4 HF2 hk4 H3 hc3 ha3 hky hkx hwy
          go_upto_region 25 with fail
          rw [← HWY.out]
          go_cut [143] (fun sb wx => sb = .bool (t1 != t2 || !EQ) ∧ Below wy.heap.size wy wx)
          case first =>
            rcases Classical.em (t1 = t2) with hne | hne
            · subst hne
              go_wp2_with fail
              refine (HES.out _ hcy).mono ?_
              rintro e w5 ⟨rfl, hb5⟩
              go_wp2_with fail
              go_meet
              exact ⟨by simp, hb5⟩
            · go_wp2_with fail
              go_meet
              exact ⟨by simp [hne], hyy⟩
          case rest =>
            obtain ⟨rfl, hb5⟩ := hcut
            obtain ⟨w5, rfl⟩ : ∃ w5 : World, w5 = wc := ⟨_, rfl⟩
            have hc5 := HT0.out _ _ hcy hb5
            have HB5 := Lib.hid (HBY.out.trans (hb5.mono HBY.out.size))
            generalize (t1 != t2 || !EQ) = TB at *
            cases TB with
            | false =>
              have HS := Lib.hid (HSK.out _ HB5.out (by rw [HCH.out]; rfl))
              clear HSK HCH HPU
              go_wp2_with fail
              go_meet
              exact HS.out
            | true =>
              have HC2 := Lib.hid (show chgEv evs evs' kn = [⟨3, kn, ⟨#[]⟩, !t1, !t2, zeroHd, zeroHd, zeroReg, zeroReg, XC, YC, zeroCm, zeroCm⟩] by rw [HCH.out]; rfl)
              have hl3 : w3.heap.size < w5.heap.size := by have := hb5.size; omega
              have hl4 : w4.heap.size < w5.heap.size := by have := hb5.size; omega
              have ex : ∀ (w' : World), BoxKeep w5 w3.heap.size w4.heap.size w' → ∀ (j : Nat), w'.cell? ⟨w3.heap.size, j, none⟩ = _ := fun w' h j => cell_of_row _ _ j _ 50 (0, 0) (h.1.trans ((hb5.block _ (by omega)).trans HKX.out))
              have ey : ∀ (w' : World), BoxKeep w5 w3.heap.size w4.heap.size w' → ∀ (j : Nat), w'.cell? ⟨w4.heap.size, j, none⟩ = _ := fun w' h j => cell_of_row _ _ j _ 50 (0, 0) (h.2.trans ((hb5.block _ (by omega)).trans HKY.out))
              have HC5 := Lib.hid hc5
              have HVB := Lib.hid (fun (b : Nat) (e : (Value.slice av an ac).ownBlock = some b) => (show b < w3.heap.size ∧ b < w4.heap.size from by have := HROW.out b e; omega))
              clear hyy hb5 HCH HSK HES hcy bx by_ hc5 HBX HWY HKX HKY
              have hz5d : Below w5.heap.size w5 w5.drew := (Below.refl _ _).drew
              have hk5d : BoxKeep w5 w3.heap.size w4.heap.size w5.drew := ⟨rfl, rfl⟩
              have HX5 := Lib.hid (fun (w1 : World) (h : Below w5.heap.size w5 w1) => (HCX.out w1 (HC5.out.trans (h.mono (HLT.out _ HC5.out)))).mono (fun e w' (p : EvCopy XC w1 e w') => (show ∃ c : Ev, e = .returned (.agg #[.int .i64 c.id, .int .i64 c.inn, .int .i64 c.out, .string c.region, .int .u8 c.kind, .string c.speaker, .slice c.at_ c.rows.length c.cap]) ∧ Hid (c.c = XC ∧ c.lies w' ∧ (∀ b, c.uses b → w1.heap.size ≤ b) ∧ Below w1.heap.size w1 w') ∧ Below w5.heap.size w5 w' ∧ BoxKeep w5 w3.heap.size w4.heap.size w' from p.imp fun c q => ⟨q.1, ⟨q.2.1, q.2.2.1, q.2.2.2.1, q.2.2.2.2⟩, h.trans (q.2.2.2.2.mono h.size), .of hl3 hl4 (h.trans (q.2.2.2.2.mono h.size))⟩)))
              have HY5 := Lib.hid (fun (w1 : World) (h : Below w5.heap.size w5 w1) => (HCY.out w1 (HC5.out.trans (h.mono (HLT.out _ HC5.out)))).mono (fun e w' (p : EvCopy YC w1 e w') => (show ∃ c : Ev, e = .returned (.agg #[.int .i64 c.id, .int .i64 c.inn, .int .i64 c.out, .string c.region, .int .u8 c.kind, .string c.speaker, .slice c.at_ c.rows.length c.cap]) ∧ Hid (c.c = YC ∧ c.lies w' ∧ (∀ b, c.uses b → w1.heap.size ≤ b) ∧ Below w1.heap.size w1 w') ∧ Below w5.heap.size w5 w' ∧ BoxKeep w5 w3.heap.size w4.heap.size w' from p.imp fun c q => ⟨q.1, ⟨q.2.1, q.2.2.1, q.2.2.2.1, q.2.2.2.2⟩, h.trans (q.2.2.2.2.mono h.size), .of hl3 hl4 (h.trans (q.2.2.2.2.mono h.size))⟩)))
              clear HCX HCY
              go_upto_region 26 with fail
              go_region_held3 (fun w' => BoxKeep w5 w3.heap.size w4.heap.size w') (first | with_reducible assumption | with_reducible exact hk5d | exact .of hl3 hl4 (hz7.alloc hz7.size _)) (first
                | (go_at_call 40; (with_reducible refine (HX5.out _ ?_).mono ?_); assumption; rintro e w6 ⟨cx, rfl, hcx, hz6, hk6⟩)
                | (go_at_call 40; (with_reducible refine (HY5.out _ ?_).mono ?_); assumption; rintro e w7 ⟨cy, rfl, hcy, hz7, hk7⟩; obtain ⟨zn, zf, hzn, hO, hP⟩ := HPU.out w7 (HB5.out.trans (hz7.mono HB5.out.size)); have HP := Lib.hid hP; have HO := Lib.hid hO; have HBS := Lib.hid (show w.heap.size + 2 ≤ w7.heap.size from by have := HLT.out _ HC5.out; have := hz7.size; omega); have HK7 := Lib.hid (fun (cs : Array Value) (w8 : World) (hg : (w7.alloc (.cells cs 54)).grownBy w8 (Value.slice av an ac).ownBlock) => hk7.grown (by have := hz7.size; omega) (by have := hz7.size; omega) hg HVB.out); clear hP hO)
                | (refine step_append_at w7 _ rfl (.tmp 144) (.tmp 155) 29 rfl (w.heap.size + 2) 54 j0 _ 59 568 Tryz.underlying29 JI.out J0.out J1.out J2.out J3.out (by decide) (.slice av an ac) zn zf (by rfl) HO.out w7.heap.size (by rfl) rfl rfl (fun u hu => Chg.one (⟨3, kn, ⟨#[]⟩, !t1, !t2, zeroHd, zeroHd, zeroReg, zeroReg, cx, cy, zeroCm, zeroCm⟩ : Chg) u hu) (by unfold maxLen; omega) (by omega) HBS.out ?_; intro v' w8 hown hgrow hat; have hk8 := HK7.out _ _ hgrow; have HOW := Lib.hid hown; have HGR := Lib.hid hgrow; have HAT := Lib.hid hat; clear hown hgrow hat))
              have R := Lib.hid (HP.out (⟨3, kn, ⟨#[]⟩, !t1, !t2, zeroHd, zeroHd, zeroReg, zeroReg, cx, cy, zeroCm, zeroCm⟩ : Chg) _ v' w8 (by rw [HC2.out, ← hcx.out.1, ← hcy.out.1]; rfl) rfl HOW.out HGR.out HAT.out ⟨Ev.keeps _ _ _ hcy.out.2.2.2 hcx.out.2.1, hcy.out.2.1⟩ (fun b hu => hu.elim (fun h => Nat.le_trans HB5.out.size (hcx.out.2.2.1 b h)) (fun h => Nat.le_trans HB5.out.size (Nat.le_trans hcx.out.2.2.2.size (hcy.out.2.2.1 b h)))))
              clear HOW HGR HAT HP HO HC2 HK7
              go_wp2_with fail
              go_meet
              exact R.out
        case rest =>
          clear HPU HSK HCH HF1 HF2 q0
          obtain ⟨av', an', ac', rfl⟩ := hcut.1.slice
          have HC := Lib.hid hcut
          clear hcut
          go_wp2_with fail
          go_roundw
          case rel => exact ⟨k + 1, by omega, by go_num, HC.out⟩
          all_goals first | (simp [intOf]; done) | (simp [intOf]; omega)
      · obtain rfl : k = es.length := by omega
        have HN := Lib.hid (show DRel (P0 ++ ls.flatMap (fun l => chgReg regs regs' ⟨l.toArray⟩) ++ es.flatMap (chgEv evs evs')) (w.heap.size + 2) W0 (.slice av an ac) wr from by
          have := hR.1
          rwa [List.take_length] at this)
        clear hR
        go_wp2_with fail
        go_meet
        exact HN.out
  case rest =>
  clear HL0
  have hbc := hcut.below
  obtain ⟨av, an, ac, rfl⟩ := hcut.slice
  have HD := Lib.hid hcut
  clear hcut
  go_wp2_with fail
  refine (HKC.out _ (HB.out _ hbc)).mono ?_
  rintro e w3 ⟨kv, rfl, ho, hb3⟩
  obtain ⟨ka, kc, rfl, hKA⟩ := KeysAt.of (v := .slice av an ac) ho HD.out.lt
  have HL0 := Lib.hid (show LRel (P0 ++ ls.flatMap (fun l => chgReg regs regs' ⟨l.toArray⟩) ++ es.flatMap (chgEv evs evs')) (chgCm cms cms') (Value.int .i64) cs ka (w.heap.size + 2) W0 0 (.slice av an ac) w3 from ⟨by simpa using HD.out.later hBW hb3, hKA⟩)
  clear ho hb3 hKA HD hbc
  go_upto_block 6 with fail
  go_cut [9] (fun s9 wx => DRel (P0 ++ ls.flatMap (fun l => chgReg regs regs' ⟨l.toArray⟩) ++ es.flatMap (chgEv evs evs') ++ cs.flatMap (chgCm cms cms')) (w.heap.size + 2) W0 s9 wx)
  case first =>
    go_wp2_with fail
    go_loopw [9, 164] (fun s9 i wr => ∃ k : Nat, k ≤ cs.length ∧ i = .int .i64 k ∧ LRel (P0 ++ ls.flatMap (fun l => chgReg regs regs' ⟨l.toArray⟩) ++ es.flatMap (chgEv evs evs')) (chgCm cms cms') (Value.int .i64) cs ka (w.heap.size + 2) W0 k s9 wr) (fun _ i _ => cs.length - (intOf i).toNat)
    case atStart => exact ⟨0, by omega, rfl, HL0.out⟩
    case round =>
      clear HL0
      obtain ⟨k, hk, rfl, hR⟩ := hrel
      have hbr := hR.1.below
      obtain ⟨av, an, ac, rfl⟩ := hR.1.slice
      by_cases hlt : k < cs.length
      · obtain ⟨kb, ko, l, rfl, hkl, hlk, hkc, _⟩ := hR.2.1.at_ hlt
        have q0 := hkc 0 _ rfl
        obtain ⟨kn, hkn⟩ : ∃ kn : Int, kn = l := ⟨_, rfl⟩
        have HPU := Lib.hid (fun (w1 : World) (hb : Below wr.heap.size wr w1) => LRel.push hR hlk hBW hb (fun x => chgCm_le _ _ _))
        have HSK := Lib.hid (fun (w1 : World) (hb : Below wr.heap.size wr w1) (hf : chgCm cms cms' kn = []) => LRel.skip hR hlk hBW hb (hkn ▸ hf))
        obtain ⟨x, i1, t1, hv1, hx1, ht1⟩ := find43_val (first (fun x : Cm => x.id == kn) cms)
        obtain ⟨y, i2, t2, hv2, hx2, ht2⟩ := find43_val (first (fun x : Cm => x.id == kn) cms')
        have HCH := Lib.hid (show chgCm cms cms' kn = if (t1 != t2 || !cmEq x y) = true then [⟨4, kn, ⟨#[]⟩, !t1, !t2, zeroHd, zeroHd, zeroReg, zeroReg, zeroEvC, zeroEvC, x, y⟩] else [] by rw [chgCm_of, hx1, hx2, ht1, ht2])
        have HF1 := Lib.hid (fun (w1 : World) (h : Below (w.heap.size + 2) W0 w1) => (show Calls Tryz.prog 43 #[.slice ca cms.length cc, .func (.func 42) #[] #[], .int .i64 kn] w1 (fun e w' => e = .returned (.tuple #[.agg x.enc.toArray, .int .i64 i1, .bool t1]) ∧ Below w1.heap.size w1 w') from (HMA.out kn w1 (HB.out _ h)).mono (fun e w' p => ⟨by rw [← hv1]; exact p.1, p.2⟩)))
        have HF2 := Lib.hid (fun (w1 : World) (h : Below (w.heap.size + 2) W0 w1) => (show Calls Tryz.prog 43 #[.slice ca' cms'.length cc', .func (.func 42) #[] #[], .int .i64 kn] w1 (fun e w' => e = .returned (.tuple #[.agg y.enc.toArray, .int .i64 i2, .bool t2]) ∧ Below w1.heap.size w1 w') from (HMB.out kn w1 (HB.out _ h)).mono (fun e w' p => ⟨by rw [← hv2]; exact p.1, p.2⟩)))
        have hpr1 := flat_le (fun l => chgReg regs regs' ⟨l.toArray⟩) (fun x => chgReg_le _ _ _) ls
        have hpr2 := flat_le (chgEv evs evs') (fun x => chgEv_le _ _ _) es
        have hpre : (P0 ++ ls.flatMap (fun l => chgReg regs regs' ⟨l.toArray⟩) ++ es.flatMap (chgEv evs evs')).length ≤ 16000001 := by rw [List.length_append, List.length_append]; omega
        simp only [← hkn, Nat.add_zero, Nat.mul_one] at q0 HPU
        have HROW := Lib.hid hR.1.lt
        have HBR := Lib.hid hbr
        have hbs := HLT.out _ hbr
        clear hR hkc hlk hkn hv1 hv2 hx1 hx2 ht1 ht2
        have r1 := fun wx => run_cmNe x y wx
        generalize hEQ : cmEq x y = EQ at HCH r1
        clear hEQ
        obtain ⟨xid, xev, xfrm, xtil, xau, xtx, xdn, xlo⟩ := x
        obtain ⟨yid, yev, yfrm, ytil, yau, ytx, ydn, ylo⟩ := y
        simp only [Cm.enc] at r1 HF1 HF2
        go_upto_block 7 with fail
        go_cut [9] (fun s9 wx => LRel (P0 ++ ls.flatMap (fun l => chgReg regs regs' ⟨l.toArray⟩) ++ es.flatMap (chgEv evs evs')) (chgCm cms cms') (Value.int .i64) cs (some ⟨kb, ko, none⟩) (w.heap.size + 2) W0 (k + 1) s9 wx)
        case first =>
          go_wp2_with fail
          refine (HF1.out _ hbr).mono ?_
          rintro e w3 ⟨rfl, hb3⟩
          have hc3 := HT0.out _ _ hbr hb3
          have ha3 : ∀ o, Below (w.heap.size + 2) W0 (w3.alloc o) := fun o => hc3.alloc (HLT.out _ hc3) o
          have H3 := Lib.hid hb3
          clear hb3 HF1 q0
          go_wp2_with fail
          refine (HF2.out _ (ha3 _)).mono ?_
          rintro e w4 ⟨rfl, hb4⟩
          have hc4 := HT0.out _ _ (ha3 _) hb4
          have hs4 : w3.heap.size + 1 ≤ w4.heap.size := by have := hb4.size; simpa using this
          have hk4 : w4.heap[w3.heap.size]? = some (.cells #[.int .i64 xid, .int .i64 xev, .int .i64 xfrm, .int .i64 xtil, .string xau, .string xtx, .bool xdn, .bool xlo] 52 (0, 0)) := (hb4.block _ (by simp)).trans (heap_alloc_last w3 _)
          have HBX := Lib.hid (fun (o : Obj) => (show Below wr.heap.size wr (w4.alloc o) from ((H3.out.alloc H3.out.size _).trans (hb4.mono (by have := H3.out.size; simp; omega))).alloc (by have := H3.out.size; omega) o))
          obtain ⟨wq, hwq⟩ : ∃ wq, wq = w4.alloc (.cells #[.int .i64 yid, .int .i64 yev, .int .i64 yfrm, .int .i64 ytil, .string yau, .string ytx, .bool ydn, .bool ylo] 52) := ⟨_, rfl⟩
          have cq3 : ∀ (j : Nat), wq.cell? ⟨w3.heap.size, j, none⟩ = _ := fun j => cell_of_row _ _ j _ 52 (0, 0) (show wq.heap[w3.heap.size]? = _ from hwq ▸ alloc_keep hk4)
          have cq4 : ∀ (j : Nat), wq.cell? ⟨w4.heap.size, j, none⟩ = _ := fun j => cell_of_row _ _ j _ 52 (0, 0) (show wq.heap[w4.heap.size]? = _ from hwq ▸ heap_alloc_last w4 _)
          have HBQ := Lib.hid (show Below wr.heap.size wr wq from hwq ▸ HBX.out _)
          have HBS := Lib.hid (show w.heap.size + 2 ≤ wq.heap.size from by have := HBQ.out.size; omega)
          have HWQ := Lib.hid hwq
          clear hb4 HF2 hk4 H3 hc3 ha3 HBX hwq
          go_upto_region 33 with fail
          rw [← HWQ.out]
          go_cut [191] (fun sb wx => sb = .bool (t1 != t2 || !EQ) ∧ wx = wq)
          case first =>
            rcases Classical.em (t1 = t2) with hne | hne
            · subst hne
              go_wp2_with fail
              go_meet
              exact ⟨by simp, rfl⟩
            · go_wp2_with fail
              go_meet
              exact ⟨by simp [hne], rfl⟩
          case rest =>
            obtain ⟨rfl, rfl⟩ := hcut
            clear HWQ r1
            generalize (t1 != t2 || !EQ) = TB at *
            cases TB with
            | false =>
              have HS := Lib.hid (HSK.out _ HBQ.out (by rw [HCH.out]; rfl))
              clear HSK HCH HPU
              skip
              go_wp2_with fail
              go_meet
              exact HS.out
            | true =>
              have HC2 := Lib.hid (show chgCm cms cms' kn = [⟨4, kn, ⟨#[]⟩, !t1, !t2, zeroHd, zeroHd, zeroReg, zeroReg, zeroEvC, zeroEvC, ⟨xid, xev, xfrm, xtil, xau, xtx, xdn, xlo⟩, ⟨yid, yev, yfrm, ytil, yau, ytx, ydn, ylo⟩⟩] by rw [HCH.out]; rfl)
              obtain ⟨zn, zf, hzn, hO, hP⟩ := HPU.out _ HBQ.out
              have HP := Lib.hid hP
              clear hP HPU HCH HSK
              go_wp2_with (at_builtin; refine wpList_append_at _ _ rfl (.tmp 192) (.tmp 201) 29 rfl (w.heap.size + 2) 54 j0 _ 59 568 Tryz.underlying29 JI.out J0.out J1.out J2.out J3.out (by decide) _ _ _ rfl hO _ rfl rfl ?hszCm ?h1Cm ?h63Cm ?hbCm ?hbaseCm ?_)
              try (case hszCm => rfl)
              case h1Cm => first | exact fun u hu => Chg.one (⟨4, kn, ⟨#[]⟩, !t1, !t2, zeroHd, zeroHd, zeroReg, zeroReg, zeroEv, zeroEv, ⟨xid, xev, xfrm, xtil, xau, xtx, xdn, xlo⟩, ⟨yid, yev, yfrm, ytil, yau, ytx, ydn, ylo⟩⟩ : Chg) u hu | ((repeat' apply And.intro) <;> rfl)
              case h63Cm => unfold maxLen; omega
              case hbCm => omega
              try (case hbaseCm => exact HBS.out)
              intro v' w2' hown hgrow hat
              have R := Lib.hid (HP.out (⟨4, kn, ⟨#[]⟩, !t1, !t2, zeroHd, zeroHd, zeroReg, zeroReg, zeroEv, zeroEv, ⟨xid, xev, xfrm, xtil, xau, xtx, xdn, xlo⟩, ⟨yid, yev, yfrm, ytil, yau, ytx, ydn, ylo⟩⟩ : Chg) _ v' w2' HC2.out rfl hown hgrow hat (flat_chg _ rfl rfl _).1 (fun b hu => ((flat_chg _ rfl rfl wr).2 b hu).elim))
              clear hown hgrow hat HP hO HC2
              go_wp2_with fail
              go_meet
              exact R.out
        case rest =>
          clear HPU HSK HCH HF1 HF2 q0 r1
          obtain ⟨av', an', ac', rfl⟩ := hcut.1.slice
          have HC := Lib.hid hcut
          clear hcut
          go_wp2_with fail
          go_roundw
          case rel => exact ⟨k + 1, by omega, by go_num, HC.out⟩
          all_goals first | (simp [intOf]; done) | (simp [intOf]; omega)
      · obtain rfl : k = cs.length := by omega
        have HN := Lib.hid (show DRel (P0 ++ ls.flatMap (fun l => chgReg regs regs' ⟨l.toArray⟩) ++ es.flatMap (chgEv evs evs') ++ cs.flatMap (chgCm cms cms')) (w.heap.size + 2) W0 (.slice av an ac) wr from by
          have := hR.1
          rwa [List.take_length] at this)
        clear hR
        go_wp2_with fail
        go_meet
        exact HN.out
  case rest =>
  clear HL0
  have hbc := hcut.below
  obtain ⟨av, an, ac, rfl⟩ := hcut.slice
  rw [HCH.out] at hcut
  have HFIN := Lib.hid (HQ.out _ _ _ hBW HWW.out hcut)
  clear hcut
  go_wp2_with fail
  exact HFIN.out
end Go.Proofs.YtnlnmbcaongehaaGreatDoor
