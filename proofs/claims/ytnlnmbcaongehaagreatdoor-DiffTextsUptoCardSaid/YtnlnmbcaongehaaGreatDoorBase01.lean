/- The contract of document.header: the first error of a document's header. The contracts of region.from, Check, Default, usable: what they return for any region. Slices of structs in memory: what is read of them, and that later worlds keep them. Rows of structs that a call owns: how they are read, stored into and kept. The contract of region.Find: the region with a name. The contract of region.CheckList: the first error of a list of regions. The contract of region.Place: its error for any region and lengths. -/
import Derived.Deep.RegionWith
import Derived.Laws.OwnMore
import Derived.Lib.SmallJoins
import Derived.Deep.QuietTactic
import Derived.BigQuiet
import Derived.Test.YtnlnmbcaongehaaGreatDoorBase00
set_option linter.unusedVariables false
set_option linter.unusedSimpArgs false
namespace Go.Proofs.YtnlnmbcaongehaaGreatDoor
open Go.RowKit
theorem ret_int {k : IntKind} {a b : Int} (h : a = b) : Ending.returned (.int k a) = .returned (.int k b) := by rw [h]
theorem val_pos {c : Prop} [Decidable c] {v a b : Int} (h : c) (h2 : v = a) : v = if c then a else b := by rw [if_pos h, h2]
theorem val_neg {c : Prop} [Decidable c] {v a b : Int} (h : ¬ c) (h2 : v = b) : v = if c then a else b := by rw [if_neg h, h2]
/-- The first error of a header. -/
def headErr (t l : ByteArray) (r : Int) (d : Bool) (last : Int) : Int :=
  if (!validB t) = true then 10 else if 400 < t.size then 9 else if (!l.toList.isEmpty) = true ∧ (!nameB l) = true then 5 else if (rateErr r d != 0) = true then rateErr r d else if last < 0 ∨ 1099511627776 < last then 2 else 0
theorem size_toList (l : ByteArray) : l.toList.length = l.size := by
  rw [Lib.toList_data]
  simp
theorem empty_str (l : ByteArray) : l.size = 0 ↔ l.toList = [] := by
  have := size_toList l
  constructor
  · intro h
    exact List.eq_nil_of_length_eq_zero (by omega)
  · intro h
    rw [h] at this
    simpa using this.symm
/-- A block that holds cells, in every later world. -/
theorem box_cell (w : World) (cs : Array Value) (t : TypeId) (j : Nat) (v : Value) (h : cs[j]? = some v) (w' : World) (hb : Below (w.heap.size + 1) (w.alloc (.cells cs t)) w') : w'.cell? ⟨w.heap.size, j, none⟩ = some v := by
  rw [hb.cell (p := ⟨w.heap.size, j, none⟩) (by simp)]
  rw [cell_of_row _ _ j cs t (0, 0) (heap_alloc_last w _), h]
theorem box_below {w w' : World} {o : Obj} (hb : Below (w.heap.size + 1) (w.alloc o) w') : Below w.heap.size w w' :=
  ((Below.refl _ _).alloc (Nat.le_refl _) _).trans (hb.mono (by omega))
set_option maxHeartbeats 1600000 in
theorem header_calls (t l : ByteArray) (r : Int) (d : Bool) (last : Int) (a5 a6 a7 : Option Addr) (n5 n6 n7 c5 c6 c7 : Nat) (w : World) (hE : Env w) (ht : t.size ≤ 4000000) (hl : l.size ≤ 4000000) (h0 : 0 ≤ r) (h1 : r ≤ 255) :
    Calls Tryz.prog 85 #[.agg #[.string t, .string l, .int .u8 r, .bool d, .int .i64 last, .slice a5 n5 c5, .slice a6 n6 c6, .slice a7 n7 c7]] w fun e w' => e = .returned (.int .i64 (headErr t l r d last)) ∧ Below w.heap.size w w' := by
  generalize hG : headErr t l r d last = G
  unfold headErr at hG
  have HG := Lib.hid hG
  clear hG
  generalize hcs : #[Value.string t, .string l, .int .u8 r, .bool d, .int .i64 last, .slice a5 n5 c5, .slice a6 n6 c6, .slice a7 n7 c7] = cs
  have f0 := box_cell w cs 27 0 (.string t) (by rw [← hcs]; rfl)
  have f1 := box_cell w cs 27 1 (.string l) (by rw [← hcs]; rfl)
  have f2 := box_cell w cs 27 2 (.int .u8 r) (by rw [← hcs]; rfl)
  have f3 := box_cell w cs 27 3 (.bool d) (by rw [← hcs]; rfl)
  have f4 := box_cell w cs 27 4 (.int .i64 last) (by rw [← hcs]; rfl)
  have HE := Lib.hid (fun (w1 : World) (h : Below (w.heap.size + 1) (w.alloc (.cells cs 27)) w1) => hE.below (box_below h) (Nat.le_refl _))
  have HB := Lib.hid (fun (w1 : World) (h : Below (w.heap.size + 1) (w.alloc (.cells cs 27)) w1) => box_below h)
  have hb0 : Below (w.heap.size + 1) (w.alloc (.cells cs 27)) (w.alloc (.cells cs 27)) := Below.refl _ _
  have hsz : (w.alloc (.cells cs 27)).heap.size = w.heap.size + 1 := World.size_alloc _ _
  generalize hW0 : w.alloc (.cells cs 27) = W0 at *
  have HW0 := Lib.hid hW0
  have HSZ := Lib.hid hsz
  clear hW0 hsz hE
  go_enter Tryz.func85, Tryz.ntmps85
  subst hcs
  go_wp2_with fail
  rw [HW0.out]
  refine (valid_calls t _ ht (HE.out _ hb0)).mono ?_
  rintro e w1 ⟨rfl, hb1⟩
  rw [HSZ.out] at hb1
  clear HW0
  go_wp2_with (first
    | (go_at_call 150; refine (name_calls _ _ (by assumption)).mono ?_; rintro e w2 ⟨rfl, rfl⟩)
    | (go_at_call 151; refine (rate_calls _ _ _ (by assumption) (by assumption)).mono ?_; rintro e w3 ⟨rfl, hb3⟩; replace hb3 : Below (w.heap.size + 1) W0 w3 := hb1.trans (hb3.mono (by have := hb1.size; rw [HSZ.out] at this; exact this))))
  all_goals
    go_ret
    refine ⟨ret_int ?_, HB.out _ (by first | exact hb3 | exact hb1)⟩
    rw [← HG.out]
    clear f0 f1 f2 f3 f4
    repeat (first
      | rfl
      | (refine val_pos ?_ ?_; focus (first | assumption | omega | (simp only [*]; decide) | (simp_all <;> fail)))
      | (refine val_neg ?_ ?_; focus (first | omega | (simp only [*]; decide) | (simp_all <;> fail))))
end Go.Proofs.YtnlnmbcaongehaaGreatDoor
namespace Go.Proofs.YtnlnmbcaongehaaGreatDoor
open Go.RowKit
/-- A region of the grid. -/
structure Reg where
  name : ByteArray
  top : Int
  height : Int
  left : Int
  width : Int
  align : Int
  bottom : Bool
def Reg.enc (x : Reg) : List Value := [.string x.name, .int .i64 x.top, .int .i64 x.height, .int .i64 x.left, .int .i64 x.width, .int .u8 x.align, .bool x.bottom]
def i64 (n : Int) : Prop := -9223372036854775808 ≤ n ∧ n ≤ 9223372036854775807
def Reg.fits (x : Reg) : Prop := x.name.size ≤ 4000000 ∧ i64 x.top ∧ i64 x.height ∧ i64 x.left ∧ i64 x.width ∧ 0 ≤ x.align ∧ x.align ≤ 255
/-- Whether a number is from lo to hi. -/
def inB (n lo hi : Int) : Bool := decide (lo ≤ n ∧ n ≤ hi)
theorem inB_yes {n lo hi : Int} (h : lo ≤ n) (h' : n ≤ hi) : inB n lo hi = true := by simp [inB, h, h']
theorem inB_no {n lo hi : Int} (h : ¬ (lo ≤ n ∧ n ≤ hi)) : inB n lo hi = false := by unfold inB; exact decide_eq_false h
theorem from_calls (n lo hi : Int) (w : World) : Calls Tryz.prog 209 #[.int .i64 n, .int .i64 lo, .int .i64 hi] w fun e w' => e = .returned (.bool (inB n lo hi)) ∧ w = w' := by
  by_cases h1 : lo ≤ n
  · by_cases h2 : n ≤ hi
    · have HI := Lib.hid (inB_yes h1 h2)
      go_enter Tryz.func209, Tryz.ntmps209
      go_wp2
      go_ret
      rw [HI.out]; exact ⟨rfl, rfl⟩
    · have HI := Lib.hid (inB_no (n := n) (lo := lo) (hi := hi) (by omega))
      have h2' : decide (n ≤ hi) = false := by simpa using h2
      go_enter Tryz.func209, Tryz.ntmps209
      go_wp2
      go_ret
      rw [HI.out]; exact ⟨rfl, rfl⟩
  · have HI := Lib.hid (inB_no (n := n) (lo := lo) (hi := hi) (by omega))
    have h1' : decide (lo ≤ n) = false := by simpa using h1
    go_enter Tryz.func209, Tryz.ntmps209
    go_wp2
    go_ret
    rw [HI.out]; exact ⟨rfl, rfl⟩
/-- Whether the rectangle lies in the grid. -/
def gridB (x : Reg) : Bool := inB x.top 0 14 && inB x.height 1 (15 - x.top) && inB x.left 0 31 && inB x.width 1 (32 - x.left)
/-- The error of a region. -/
def regErr (x : Reg) : Int := if (!nameB x.name) = true then 5 else if (!gridB x) = true then 2 else if x.align < 1 ∨ 3 < x.align then 3 else 0
set_option maxHeartbeats 1600000 in
theorem regCheck_calls (x : Reg) (w : World) (hf : x.fits) :
    Calls Tryz.prog 152 #[.agg x.enc.toArray] w fun e w' => e = .returned (.int .i64 (regErr x)) ∧ Below w.heap.size w w' := by
  obtain ⟨nm, top, height, left, width, align, bottom⟩ := x
  obtain ⟨hs, hT, hH, hL, hW, ha0, ha1⟩ := hf
  simp only [i64] at hs hT hH hL hW ha0 ha1
  simp only [Reg.enc]
  generalize hG : regErr ⟨nm, top, height, left, width, align, bottom⟩ = G
  simp only [regErr, gridB] at hG
  have HG := Lib.hid hG
  clear hG
  rcases (show (¬ (0 ≤ top ∧ top ≤ 14)) ∨ ((0 ≤ top ∧ top ≤ 14) ∧ ¬ (0 ≤ left ∧ left ≤ 31)) ∨ ((0 ≤ top ∧ top ≤ 14) ∧ (0 ≤ left ∧ left ≤ 31)) by omega) with h | ⟨⟨t0, t1⟩, h⟩ | ⟨⟨t0, t1⟩, ⟨l0, l1⟩⟩
  case' inl =>
    have i1 := inB_no h
  case' inr.inl =>
    have i1 := inB_yes t0 t1
    have i3 := inB_no h
  case' inr.inr =>
    have i1 := inB_yes t0 t1
    have i3 := inB_yes l0 l1
  all_goals
    go_enter Tryz.func152, Tryz.ntmps152
    go_wp2_with (first
      | (go_at_call 150; refine (name_calls _ _ (by assumption)).mono ?_; rintro e w2 ⟨rfl, rfl⟩)
      | (go_at_call 209; refine (from_calls _ _ _ _).mono ?_; rintro e w2 ⟨rfl, rfl⟩))
    all_goals
      go_ret
      refine ⟨ret_int ?_, (Below.refl _ _).alloc (Nat.le_refl _) _⟩
      rw [← HG.out]
      repeat (first
        | rfl
        | (refine val_pos ?_ ?_; focus (first | assumption | omega | (simp only [*]; decide) | (simp_all <;> fail)))
        | (refine val_neg ?_ ?_; focus (first | omega | (simp only [*]; decide) | (simp_all <;> fail))))
end Go.Proofs.YtnlnmbcaongehaaGreatDoor
namespace Go.Proofs.YtnlnmbcaongehaaGreatDoor
open Go.RowKit
/-- The address leads to the elements xs, of k cells each; of each Ok holds (what lies behind it). -/
def SliceOf {α : Type} (k : Nat) (enc : α → List Value) (Ok : World → α → Prop) (w : World) (a : Option Addr) (xs : List α) : Prop :=
  xs = [] ∨ ∃ b off, a = some ⟨b, off, none⟩ ∧ b < w.heap.size ∧ ∀ i x, xs[i]? = some x → (∀ j v, (enc x)[j]? = some v → w.cell? ⟨b, off + i * k + j, none⟩ = some v) ∧ Ok w x
def Flat {α : Type} (_ : World) (_ : α) : Prop := True
theorem SliceOf.at_ {α : Type} {k : Nat} {enc : α → List Value} {Ok : World → α → Prop} {w : World} {a : Option Addr} {xs : List α} (h : SliceOf k enc Ok w a xs) {i : Nat} (hi : i < xs.length) :
    ∃ b off x, a = some ⟨b, off, none⟩ ∧ b < w.heap.size ∧ xs[i]? = some x ∧ (∀ j v, (enc x)[j]? = some v → w.cell? ⟨b, off + i * k + j, none⟩ = some v) ∧ Ok w x := by
  rcases h with rfl | ⟨b, off, rfl, hb, hc⟩
  · simp at hi
  · have := hc i xs[i] (List.getElem?_eq_getElem hi)
    exact ⟨b, off, xs[i], rfl, hb, List.getElem?_eq_getElem hi, this.1, this.2⟩
/-- A fact that later worlds keep. -/
def Keeps {α : Type} (Ok : World → α → Prop) : Prop := ∀ (w w' : World) (x : α), Below w.heap.size w w' → Ok w x → Ok w' x
theorem Flat.keeps {α : Type} : Keeps (Flat (α := α)) := fun _ _ _ _ _ => trivial
theorem SliceOf.keeps {α : Type} {k : Nat} {enc : α → List Value} {Ok : World → α → Prop} (hk : Keeps Ok) (w w' : World) (a : Option Addr) (xs : List α) (hb : Below w.heap.size w w') (h : SliceOf k enc Ok w a xs) : SliceOf k enc Ok w' a xs := by
  rcases h with h | ⟨b, off, rfl, hlt, hc⟩
  · exact .inl h
  · refine .inr ⟨b, off, rfl, Nat.lt_of_lt_of_le hlt hb.size, fun i x hx => ⟨fun j v hv => ?_, hk w w' x hb (hc i x hx).2⟩⟩
    rw [hb.cell (p := ⟨b, off + i * k + j, none⟩) hlt]
    exact (hc i x hx).1 j v hv
def Regs (w : World) (a : Option Addr) (xs : List Reg) : Prop := SliceOf 7 Reg.enc Flat w a xs
theorem Regs.later {w w' : World} {a : Option Addr} {xs : List Reg} (h : Regs w a xs) (hb : Below w.heap.size w w') : Regs w' a xs := SliceOf.keeps Flat.keeps w w' a xs hb h
/-- The default region. -/
def defReg : Reg := ⟨⟨#[]⟩, 11, 4, 0, 32, 2, true⟩
def zeroReg : Reg := ⟨⟨#[]⟩, 0, 0, 0, 0, 0, false⟩
theorem default_calls (w : World) : Calls Tryz.prog 210 #[] w fun e w' => e = .returned (.agg defReg.enc.toArray) ∧ Below w.heap.size w w' := by
  simp only [defReg, Reg.enc]
  go_enter Tryz.func210, Tryz.ntmps210
  go_wp2
  exact bodyPost_ret (v := .agg #[.string ⟨#[]⟩, .int .i64 11, .int .i64 4, .int .i64 0, .int .i64 32, .int .u8 2, .bool true]) (by simp [results, Tryz.results210, go_sem]) rfl ⟨rfl, (Below.refl _ _).alloc (Nat.le_refl _) _⟩
/-- Whether a region is the default one. -/
def isDef (x : Reg) : Bool := (x.name.toList == []) && (x.top == 11) && (x.height == 4) && (x.left == 0) && (x.width == 32) && (x.align == 2) && (x.bottom == true)
/-- Whether a region is accepted, or the default one. -/
def usableB (x : Reg) : Bool := isDef x || regErr x == 0
theorem run_isDef (x : Reg) (w : World) : (binOp .eql 44 (.agg x.enc.toArray) (.agg defReg.enc.toArray)).run Tryz.prog w = .ok (.bool (isDef x)) w := by
  simp [go_sem, Reg.enc, defReg, isDef]
  repeat' split
  all_goals simp_all
set_option maxHeartbeats 1600000 in
theorem usable_calls (x : Reg) (w : World) (hf : x.fits) :
    Calls Tryz.prog 216 #[.agg x.enc.toArray] w fun e w' => e = .returned (.bool (usableB x)) ∧ Below w.heap.size w w' := by
  have hU : usableB x = (isDef x || regErr x == 0) := rfl
  have hq := run_isDef x
  have hc := fun w => regCheck_calls x w hf
  have hd := fun w => default_calls w
  obtain ⟨nm, top, height, left, width, align, bottom⟩ := x
  generalize regErr ⟨nm, top, height, left, width, align, bottom⟩ = E at *
  generalize usableB ⟨nm, top, height, left, width, align, bottom⟩ = U at *
  generalize hD : isDef ⟨nm, top, height, left, width, align, bottom⟩ = D at *
  simp only [Reg.enc, defReg] at hq hc hd ⊢
  have HC := Lib.hid hc; have HD := Lib.hid hd
  clear hc hd hf hD
  generalize hcs : #[Value.string nm, .int .i64 top, .int .i64 height, .int .i64 left, .int .i64 width, .int .u8 align, .bool bottom] = cs
  have f0 := box_cell w cs 44 0 (.string nm) (by rw [← hcs]; rfl)
  have f1 := box_cell w cs 44 1 (.int .i64 top) (by rw [← hcs]; rfl)
  have f2 := box_cell w cs 44 2 (.int .i64 height) (by rw [← hcs]; rfl)
  have f3 := box_cell w cs 44 3 (.int .i64 left) (by rw [← hcs]; rfl)
  have f4 := box_cell w cs 44 4 (.int .i64 width) (by rw [← hcs]; rfl)
  have f5 := box_cell w cs 44 5 (.int .u8 align) (by rw [← hcs]; rfl)
  have f6 := box_cell w cs 44 6 (.bool bottom) (by rw [← hcs]; rfl)
  have HB := Lib.hid (fun (w1 : World) (h : Below (w.heap.size + 1) (w.alloc (.cells cs 44)) w1) => box_below h)
  have hb0 : Below (w.heap.size + 1) (w.alloc (.cells cs 44)) (w.alloc (.cells cs 44)).drew := (Below.refl _ _).drew
  have hsz : (w.alloc (.cells cs 44)).heap.size = w.heap.size + 1 := World.size_alloc _ _
  generalize hW0 : w.alloc (.cells cs 44) = W0 at *
  have HW0 := Lib.hid hW0
  have HSZ := Lib.hid hsz
  clear hW0 hsz
  go_enter Tryz.func216, Tryz.ntmps216
  subst hcs
  go_wp2_with fail
  rw [HW0.out]
  cases D
  · cases hE : E == 0
    all_goals
      rw [hE] at hU
      have HU := Lib.hid hU
      clear hU
      go_region_with (first
        | (go_at_call 210; refine (HD.out _).mono ?_; rintro e w1 ⟨rfl, hb1⟩; replace hb1 : Below (w.heap.size + 1) W0 w1 := hb0.trans (hb1.mono (by have := hb0.size; rw [HSZ.out] at this; exact this)))
        | (go_at_call 152; refine (HC.out _).mono ?_; rintro e w2 ⟨rfl, hb2⟩; replace hb2 : Below (w.heap.size + 1) W0 w2 := hb1.trans (hb2.mono (by have := hb1.size; rw [HSZ.out] at this; exact this))))
      all_goals
        go_wp2_with fail
        go_ret
        rw [HU.out]
        exact ⟨rfl, HB.out _ hb2⟩
  · have HU := Lib.hid hU
    clear hU
    go_region_with (first
      | (go_at_call 210; refine (HD.out _).mono ?_; rintro e w1 ⟨rfl, hb1⟩; replace hb1 : Below (w.heap.size + 1) W0 w1 := hb0.trans (hb1.mono (by have := hb0.size; rw [HSZ.out] at this; exact this))))
    all_goals
      go_wp2_with fail
      go_ret
      rw [HU.out]
      exact ⟨rfl, HB.out _ hb1⟩
end Go.Proofs.YtnlnmbcaongehaaGreatDoor
namespace Go.Proofs.YtnlnmbcaongehaaGreatDoor
open Go.RowKit
theorem flat_at {α : Type} (enc : α → List Value) (k : Nat) (hk : ∀ x, (enc x).length = k) : ∀ (xs : List α) (i : Nat) (x : α) (j : Nat) (v : Value), xs[i]? = some x → (enc x)[j]? = some v → (xs.flatMap enc)[i * k + j]? = some v
  | [], i, x, j, v, h, _ => by simp at h
  | y :: xs, 0, x, j, v, h, hv => by
    obtain rfl : y = x := by simpa using h
    have hj : j < (enc y).length := (List.getElem?_eq_some_iff.1 hv).1
    rw [List.flatMap_cons, show 0 * k + j = j by omega, List.getElem?_append_left hj]
    exact hv
  | y :: xs, i + 1, x, j, v, h, hv => by
    have hx : xs[i]? = some x := by simpa using h
    have := hk y
    rw [List.flatMap_cons, Nat.succ_mul, List.getElem?_append_right (by omega), show i * k + k + j - (enc y).length = i * k + j by omega]
    exact flat_at enc k hk xs i x j v hx hv
theorem flat_len {α : Type} (enc : α → List Value) (k : Nat) (hk : ∀ x, (enc x).length = k) : ∀ xs : List α, (xs.flatMap enc).length = xs.length * k
  | [] => by simp
  | x :: xs => by rw [List.flatMap_cons, List.length_append, hk, flat_len enc k hk xs, List.length_cons, Nat.succ_mul]; omega
theorem flat_one {α : Type} {enc : α → List Value} (h1 : ∀ x, ∀ v ∈ enc x, v.oneCell' = true) (xs : List α) : ∀ u ∈ xs.flatMap enc, u.oneCell' = true := by
  intro u hu
  obtain ⟨x, _, hx⟩ := List.mem_flatMap.1 hu
  exact h1 x u hx
/-- The cells of a row, each by its number. -/
theorem flat_cells {α : Type} {k : Nat} {enc : α → List Value} {Ok : World → α → Prop} (hk : ∀ x, (enc x).length = k) {w : World} {b off : Nat} {xs : List α} (h : SliceOf k enc Ok w (some ⟨b, off, none⟩) xs) (j : Nat) (u : Value) (hu : (xs.flatMap enc)[j]? = some u) : w.cell? ⟨b, off + j, none⟩ = some u := by
  have hj : j < xs.length * k := by rw [← flat_len enc k hk xs]; exact (List.getElem?_eq_some_iff.1 hu).1
  have hk0 : 0 < k := by
    rcases Nat.eq_zero_or_pos k with h0 | h0
    · rw [h0] at hj; omega
    · exact h0
  have hi : j / k < xs.length := Nat.div_lt_of_lt_mul (by rw [Nat.mul_comm]; exact hj)
  have hm : j % k < k := Nat.mod_lt _ hk0
  have he : j / k * k + j % k = j := by rw [Nat.mul_comm]; exact Nat.div_add_mod j k
  obtain ⟨b', off', x, hab, _, hx, hc, _⟩ := h.at_ hi
  simp only [Option.some.injEq, Addr.mk.injEq, and_true] at hab
  obtain ⟨rfl, rfl⟩ := hab
  obtain ⟨u', hv⟩ : ∃ u', (enc x)[j % k]? = some u' := ⟨_, List.getElem?_eq_getElem (by rw [hk]; exact hm)⟩
  have := flat_at enc k hk xs (j / k) x (j % k) _ hx hv
  rw [he, hu] at this
  have hc2 := hc (j % k) _ hv
  rw [show off + j / k * k + j % k = off + j by omega] at hc2
  rw [hc2, this]
/-- A row that is owned is a slice of its elements. -/
theorem sliceOf_owns {α : Type} {k : Nat} {enc : α → List Value} {Ok : World → α → Prop} (hk : ∀ x, (enc x).length = k) {w : World} {base T : Nat} {v : Value} {xs : List α} (h : w.ownsRow base T k v xs.length (xs.flatMap enc)) (ho : ∀ x ∈ xs, Ok w x) : ∃ a cap, v = .slice a xs.length cap ∧ SliceOf k enc Ok w a xs := by
  have h' := h
  rcases h.2 with ⟨rfl, h0⟩ | ⟨g, cap, cur, rfl, hb, hg, _⟩
  · exact ⟨none, 0, by rw [h0], .inl (List.eq_nil_of_length_eq_zero h0)⟩
  · refine ⟨_, cap, rfl, .inr ⟨g, 0, rfl, (Array.getElem?_eq_some_iff.1 hg).1, fun i x hx => ⟨fun j v hv => ?_, ho x (List.mem_of_getElem? hx)⟩⟩⟩
    have hi : i < xs.length := (List.getElem?_eq_some_iff.1 hx).1
    have hj : j < k := by rw [← hk x]; exact (List.getElem?_eq_some_iff.1 hv).1
    have hfl := flat_at enc k hk xs i x j v hx hv
    have hlen := flat_len enc k hk xs
    have hb2 : i * k + j < xs.length * k := by rw [← hlen]; exact (List.getElem?_eq_some_iff.1 hfl).1
    rw [show 0 + i * k + j = i * k + j by omega, h'.cellAt (i * k + j) hb2]
    exact hfl
theorem ownForm {w : World} {base e size n : Nat} {v : Value} {xs : List Value} (h : w.ownsRow base e size v n xs) (hn : 0 < n) : ∃ g cap, v = .slice (some ⟨g, 0, none⟩) n cap := by
  rcases h.2 with ⟨_, h0⟩ | ⟨g, cap, _, h1, _⟩
  · omega
  · exact ⟨g, cap, h1⟩
theorem owns_below {B e k n : Nat} {v : Value} {xs : List Value} {w w' : World} (h : w.ownsRow B e k v n xs) (hb : Below w.heap.size w w') : w'.ownsRow B e k v n xs := by
  refine ⟨h.1, ?_⟩
  rcases h.2 with h0 | ⟨g, cap, cur, h1, h2, h3, h4⟩
  · exact .inl h0
  · exact .inr ⟨g, cap, cur, h1, h2, by rw [hb.block g (Array.getElem?_eq_some_iff.1 h3).1]; exact h3, h4⟩
/-- Whether a slice's elements lie in a block. -/
def sUses {α : Type} (a : Option Addr) (xs : List α) (b : Nat) : Prop := xs ≠ [] ∧ ∃ ad, a = some ad ∧ ad.block = b
theorem sUses_lt {α : Type} {k : Nat} {enc : α → List Value} {Ok : World → α → Prop} {w : World} {a : Option Addr} {xs : List α} (h : SliceOf k enc Ok w a xs) {b : Nat} (hu : sUses a xs b) : b < w.heap.size := by
  obtain ⟨hne, ad, rfl, rfl⟩ := hu
  rcases h with h | ⟨b, off, he, hlt, _⟩
  · exact absurd h hne
  · obtain rfl := Option.some.inj he
    exact hlt
/-- A slice whose block, and what lies behind its elements, is as it was. -/
theorem SliceOf.frame {α : Type} {k : Nat} {enc : α → List Value} {Ok : World → α → Prop} {w w' : World} {a : Option Addr} {xs : List α} (h : SliceOf k enc Ok w a xs) (hs : w.heap.size ≤ w'.heap.size) (hb : ∀ b, sUses a xs b → w'.heap[b]? = w.heap[b]?) (hok : ∀ x ∈ xs, Ok w x → Ok w' x) : SliceOf k enc Ok w' a xs := by
  by_cases hne : xs = []
  · exact .inl hne
  · rcases h with h | ⟨b, off, rfl, hlt, hc⟩
    · exact .inl h
    · refine .inr ⟨b, off, rfl, Nat.lt_of_lt_of_le hlt hs, fun i x hx => ⟨fun j v hv => ?_, hok x (List.mem_of_getElem? hx) (hc i x hx).2⟩⟩
      rw [World.cell?_of_block (w := w) (hb b ⟨hne, _, rfl, rfl⟩)]
      exact (hc i x hx).1 j v hv
end Go.Proofs.YtnlnmbcaongehaaGreatDoor
namespace Go.Proofs.YtnlnmbcaongehaaGreatDoor
open Go.RowKit
/-- The region with a name, and whether there is one. -/
def findL (nm : ByteArray) : List Reg → Reg × Bool
  | [] => (zeroReg, false)
  | x :: l => if x.name.toList == nm.toList then (x, true) else findL nm l
def findR (xs : List Reg) (nm : ByteArray) : Reg × Bool := if nm.toList = [] then (defReg, true) else findL nm xs
theorem findL_drop_yes (nm : ByteArray) (xs : List Reg) (k : Nat) (x : Reg) (hx : xs[k]? = some x) (h : (x.name.toList == nm.toList) = true) : findL nm (xs.drop k) = (x, true) := by
  have hk : k < xs.length := (List.getElem?_eq_some_iff.1 hx).1
  have e : xs[k] = x := (List.getElem?_eq_some_iff.1 hx).2
  rw [List.drop_eq_getElem_cons hk, e, findL, if_pos h]
theorem findL_drop_no (nm : ByteArray) (xs : List Reg) (k : Nat) (x : Reg) (hx : xs[k]? = some x) (h : (x.name.toList == nm.toList) = false) : findL nm (xs.drop k) = findL nm (xs.drop (k + 1)) := by
  have hk : k < xs.length := (List.getElem?_eq_some_iff.1 hx).1
  have e : xs[k] = x := (List.getElem?_eq_some_iff.1 hx).2
  rw [List.drop_eq_getElem_cons hk, e, findL, if_neg (by simp [h])]
/-- A block that was laid stands, its cells not frozen. -/
theorem box_frozen (w : World) (cs : Array Value) (t : TypeId) (j : Nat) (w' : World) (hb : Below (w.heap.size + 1) (w.alloc (.cells cs t)) w') : w'.frozen? ⟨w.heap.size, j, none⟩ = false := by
  rw [hb.frozen (p := ⟨w.heap.size, j, none⟩) (by simp)]
  exact frozen_of_row _ _ j cs t (heap_alloc_last w _)
def FindPost (r : Reg × Bool) (w : World) (e : Ending) (w' : World) : Prop := e = .returned (.tuple #[.agg r.1.enc.toArray, .bool r.2]) ∧ Below w.heap.size w w'
/-- The result's block: seven cells of zero values, not frozen, in every later world. -/
structure ZeroBox (b : Nat) (w : World) : Prop where
  c0 : w.cell? ⟨b, 0, none⟩ = some (.string ⟨#[]⟩)
  c1 : w.cell? ⟨b, 1, none⟩ = some (.int .i64 0)
  c2 : w.cell? ⟨b, 2, none⟩ = some (.int .i64 0)
  c3 : w.cell? ⟨b, 3, none⟩ = some (.int .i64 0)
  c4 : w.cell? ⟨b, 4, none⟩ = some (.int .i64 0)
  c5 : w.cell? ⟨b, 5, none⟩ = some (.int .u8 0)
  c6 : w.cell? ⟨b, 6, none⟩ = some (.bool false)
  z0 : w.frozen? ⟨b, 0, none⟩ = false
  z1 : w.frozen? ⟨b, 1, none⟩ = false
  z2 : w.frozen? ⟨b, 2, none⟩ = false
  z3 : w.frozen? ⟨b, 3, none⟩ = false
  z4 : w.frozen? ⟨b, 4, none⟩ = false
  z5 : w.frozen? ⟨b, 5, none⟩ = false
  z6 : w.frozen? ⟨b, 6, none⟩ = false
def zeroCells : Array Value := #[.string ⟨#[]⟩, .int .i64 0, .int .i64 0, .int .i64 0, .int .i64 0, .int .u8 0, .bool false]
theorem ZeroBox.of (w w' : World) (hb : Below (w.heap.size + 1) (w.alloc (.cells zeroCells 44)) w') : ZeroBox w.heap.size w' :=
  ⟨box_cell w _ _ 0 _ rfl w' hb, box_cell w _ _ 1 _ rfl w' hb, box_cell w _ _ 2 _ rfl w' hb, box_cell w _ _ 3 _ rfl w' hb, box_cell w _ _ 4 _ rfl w' hb, box_cell w _ _ 5 _ rfl w' hb, box_cell w _ _ 6 _ rfl w' hb,
   box_frozen w _ _ 0 w' hb, box_frozen w _ _ 1 w' hb, box_frozen w _ _ 2 w' hb, box_frozen w _ _ 3 w' hb, box_frozen w _ _ 4 w' hb, box_frozen w _ _ 5 w' hb, box_frozen w _ _ 6 w' hb⟩
/-- Seven stores into the result's block. -/
theorem below_seven {w w' : World} {b : Nat} (hb : Below w.heap.size w w') (h : w.heap.size ≤ b) (v0 v1 v2 v3 v4 v5 v6 : Value) :
    Below w.heap.size w (((((((w'.setCell ⟨b, 0, none⟩ v0).setCell ⟨b, 1, none⟩ v1).setCell ⟨b, 2, none⟩ v2).setCell ⟨b, 3, none⟩ v3).setCell ⟨b, 4, none⟩ v4).setCell ⟨b, 5, none⟩ v5).setCell ⟨b, 6, none⟩ v6) :=
  ((((((hb.setCell h _).setCell h _).setCell h _).setCell h _).setCell h _).setCell h _).setCell h _
theorem below_seven_alloc {w w' : World} {b : Nat} (hb : Below w.heap.size w w') (h : w.heap.size ≤ b) (v0 v1 v2 v3 v4 v5 v6 : Value) (o : Obj) :
    Below w.heap.size w ((((((((w'.setCell ⟨b, 0, none⟩ v0).setCell ⟨b, 1, none⟩ v1).setCell ⟨b, 2, none⟩ v2).setCell ⟨b, 3, none⟩ v3).setCell ⟨b, 4, none⟩ v4).setCell ⟨b, 5, none⟩ v5).setCell ⟨b, 6, none⟩ v6).alloc o) :=
  (below_seven hb h v0 v1 v2 v3 v4 v5 v6).alloc (below_seven hb h v0 v1 v2 v3 v4 v5 v6).size o
set_option maxHeartbeats 800000 in
theorem find_none (a : Option Addr) (cap : Nat) (xs : List Reg) (nm : ByteArray) (w : World) (hm : nm.toList = []) :
    Calls Tryz.prog 153 #[.slice a xs.length cap, .string nm] w (FindPost (findR xs nm) w) := by
  have hF : findR xs nm = (defReg, true) := by rw [findR, if_pos hm]
  rw [hF]
  have HD := Lib.hid (fun w => default_calls w)
  clear hF
  go_enter Tryz.func153, Tryz.ntmps153
  go_wp2_with fail
  refine (HD.out _).mono ?_
  rintro e w1 ⟨rfl, hb1⟩
  rw [World.size_alloc] at hb1
  obtain ⟨c0, c1, c2, c3, c4, c5, c6, z0, z1, z2, z3, z4, z5, z6⟩ := ZeroBox.of w w1 hb1
  have HB := Lib.hid (box_below hb1)
  have hlt : w.heap.size < w1.heap.size := by have := hb1.size; rw [World.size_alloc] at this; omega
  clear hb1 HD
  simp only [defReg, Reg.enc]
  go_wp2_with fail
  exact bodyPost_ret (v := .tuple #[.agg #[.string ⟨#[]⟩, .int .i64 11, .int .i64 4, .int .i64 0, .int .i64 32, .int .u8 2, .bool true], .bool true]) (by simp [results, Tryz.results153, go_sem, *]) rfl ⟨rfl, below_seven HB.out (Nat.le_refl _) _ _ _ _ _ _ _⟩
theorem below_alloc1 {W0 wr : World} {B : Nat} (h : Below B W0 wr) (hB : B ≤ W0.heap.size) (o : Obj) : Below B W0 (wr.alloc o) := h.alloc (Nat.le_trans hB h.size) o
set_option maxHeartbeats 1600000 in
theorem find_some (a : Option Addr) (cap : Nat) (xs : List Reg) (nm : ByteArray) (w : World) (hR : Regs w a xs) (hm : ¬ nm.toList = []) (hl : xs.length ≤ 4000000) :
    Calls Tryz.prog 153 #[.slice a xs.length cap, .string nm] w (FindPost (findR xs nm) w) := by
  have hF : findR xs nm = findL nm xs := by rw [findR, if_neg hm]
  rw [hF]
  generalize hG : findL nm xs = G
  have H0 := Lib.hid (show findL nm (xs.drop 0) = G by rw [List.drop_zero]; exact hG)
  have hsz : (w.alloc (.cells zeroCells 44)).heap.size = w.heap.size + 1 := World.size_alloc _ _
  have hme : nm.toList.isEmpty = false := by simpa using hm
  clear hF hG
  go_enter Tryz.func153, Tryz.ntmps153
  go_wp2_with fail
  go_loopw [13] (fun i wr => ∃ k : Nat, k ≤ xs.length ∧ i = .int .i64 k ∧ findL nm (xs.drop k) = G ∧ Below (w.heap.size + 1) (w.alloc (.cells zeroCells 44)) wr) (fun i _ => xs.length - (intOf i).toNat)
  case atStart => exact ⟨0, by omega, rfl, H0.out, Below.refl _ _⟩
  case round =>
    obtain ⟨k, hk, rfl, hp, hb⟩ := hrel
    have hbw := box_below hb
    obtain ⟨c0, c1, c2, c3, c4, c5, c6, z0, z1, z2, z3, z4, z5, z6⟩ := ZeroBox.of w wr hb
    have hlt0 : w.heap.size < wr.heap.size := by have := hb.size; rw [hsz] at this; omega
    by_cases hlt : k < xs.length
    · obtain ⟨b, off, x, rfl, hbl, hx, hc, _⟩ := (hR.later hbw).at_ hlt
      cases he : x.name.toList == nm.toList
      · have hP := findL_drop_no nm xs k x hx he
        rw [hP] at hp
        obtain ⟨xn, xt, xh, xl, xw, xa, xb⟩ := x
        have d0 := hc 0 _ rfl; have d1 := hc 1 _ rfl; have d2 := hc 2 _ rfl; have d3 := hc 3 _ rfl; have d4 := hc 4 _ rfl; have d5 := hc 5 _ rfl; have d6 := hc 6 _ rfl
        simp only [Nat.add_zero] at he d0 d1 d2 d3 d4 d5 d6
        have HP := Lib.hid hp
        have HB := Lib.hid (fun o => below_alloc1 hb (by rw [hsz]; omega) o)
        clear hp hP hc hx H0 c0 c1 c2 c3 c4 c5 c6 z0 z1 z2 z3 z4 z5 z6 hsz hR hb hbw
        go_wp2_with fail
        go_roundw
        case rel => exact ⟨k + 1, by omega, by go_num, HP.out, HB.out _⟩
        case measure => simp [intOf]; omega
      · have hP := findL_drop_yes nm xs k x hx he
        rw [hP] at hp
        obtain ⟨xn, xt, xh, xl, xw, xa, xb⟩ := x
        have d0 := hc 0 _ rfl; have d1 := hc 1 _ rfl; have d2 := hc 2 _ rfl; have d3 := hc 3 _ rfl; have d4 := hc 4 _ rfl; have d5 := hc 5 _ rfl; have d6 := hc 6 _ rfl
        simp only [Nat.add_zero] at he d0 d1 d2 d3 d4 d5 d6
        have HP := Lib.hid hp
        have HB := Lib.hid hbw
        clear hp hP hc hx H0 hsz hR hb hbw
        go_wp2_with fail
        exact bodyPost_ret (v := .tuple #[.agg #[.string xn, .int .i64 xt, .int .i64 xh, .int .i64 xl, .int .i64 xw, .int .u8 xa, .bool xb], .bool true]) (by simp [results, Tryz.results153, go_sem, *]) rfl
          ⟨by rw [← HP.out]; rfl, below_seven_alloc HB.out (Nat.le_refl _) _ _ _ _ _ _ _ _⟩
    · obtain rfl : k = xs.length := by omega
      rw [List.drop_length] at hp
      have HP := Lib.hid hp
      have HB := Lib.hid hbw
      clear hp H0 hsz hR hb hbw
      go_wp2_with fail
      exact bodyPost_ret (v := .tuple #[.agg #[.string ⟨#[]⟩, .int .i64 0, .int .i64 0, .int .i64 0, .int .i64 0, .int .u8 0, .bool false], .bool false]) (by simp [results, Tryz.results153, go_sem, *]) rfl
        ⟨by rw [← HP.out]; rfl, below_seven HB.out (Nat.le_refl _) _ _ _ _ _ _ _⟩
theorem find_calls (a : Option Addr) (cap : Nat) (xs : List Reg) (nm : ByteArray) (w : World) (hR : Regs w a xs) (hl : xs.length ≤ 4000000) :
    Calls Tryz.prog 153 #[.slice a xs.length cap, .string nm] w (FindPost (findR xs nm) w) := by
  by_cases hm : nm.toList = []
  · exact find_none a cap xs nm w hm
  · exact find_some a cap xs nm w hR hm hl
end Go.Proofs.YtnlnmbcaongehaaGreatDoor
namespace Go.Proofs.YtnlnmbcaongehaaGreatDoor
open Go.RowKit
/-- The error of a region behind another one (none: it is the first). -/
def stepErr (prev : Option ByteArray) (x : Reg) : Int :=
  if (regErr x != 0) = true then regErr x else match prev with
    | none => 0
    | some p => if (x.name.toList == p.toList) = true then 7 else if Op.bytesLess x.name.toList p.toList = true then 8 else 0
def listFrom : Option ByteArray → List Reg → Int
  | _, [] => 0
  | prev, x :: l => if (stepErr prev x != 0) = true then stepErr prev x else listFrom (some x.name) l
/-- The first error of a list of regions. -/
def listErr (xs : List Reg) : Int := if 16 < xs.length then 9 else listFrom none xs
def prevOf (xs : List Reg) : Nat → Option ByteArray
  | 0 => none
  | k + 1 => (xs[k]?).map Reg.name
theorem listFrom_next (xs : List Reg) (k : Nat) (x : Reg) (hx : xs[k]? = some x) (prev : Option ByteArray) (h : stepErr prev x = 0) : listFrom prev (xs.drop k) = listFrom (prevOf xs (k + 1)) (xs.drop (k + 1)) := by
  have hk : k < xs.length := (List.getElem?_eq_some_iff.1 hx).1
  have e : xs[k] = x := (List.getElem?_eq_some_iff.1 hx).2
  rw [List.drop_eq_getElem_cons hk, e, listFrom, h]
  simp [prevOf, hx]
theorem listFrom_stop (xs : List Reg) (k : Nat) (x : Reg) (hx : xs[k]? = some x) (prev : Option ByteArray) (h : (stepErr prev x != 0) = true) : listFrom prev (xs.drop k) = stepErr prev x := by
  have hk : k < xs.length := (List.getElem?_eq_some_iff.1 hx).1
  have e : xs[k] = x := (List.getElem?_eq_some_iff.1 hx).2
  rw [List.drop_eq_getElem_cons hk, e, listFrom, if_pos h]
theorem list_many (a : Option Addr) (cap : Nat) (xs : List Reg) (w : World) (hn : 16 < xs.length) :
    Calls Tryz.prog 86 #[.slice a xs.length cap] w fun e w' => e = .returned (.int .i64 (listErr xs)) ∧ Below w.heap.size w w' := by
  rw [listErr, if_pos hn]
  have hn' : (16 : Int) < (xs.length : Int) := by omega
  go_enter Tryz.func86, Tryz.ntmps86
  go_wp2_with fail
  go_ret
  exact ⟨rfl, Below.refl _ _⟩
set_option maxHeartbeats 3200000 in
theorem list_few (a : Option Addr) (cap : Nat) (xs : List Reg) (w : World) (hR : Regs w a xs) (hf : ∀ x ∈ xs, x.fits) (hn : xs.length ≤ 16) :
    Calls Tryz.prog 86 #[.slice a xs.length cap] w fun e w' => e = .returned (.int .i64 (listErr xs)) ∧ Below w.heap.size w w' := by
  rw [listErr, if_neg (by omega)]
  generalize hG : listFrom none xs = G
  have H0 := Lib.hid (show listFrom (prevOf xs 0) (xs.drop 0) = G by rw [List.drop_zero]; exact hG)
  have hn2 : decide ((16 : Int) < (xs.length : Int)) = false := by simp; omega
  clear hG
  go_enter Tryz.func86, Tryz.ntmps86
  go_wp2_with fail
  go_loopw [11] (fun i wr => ∃ k : Nat, k ≤ xs.length ∧ i = .int .i64 k ∧ listFrom (prevOf xs k) (xs.drop k) = G ∧ Below w.heap.size w wr) (fun i _ => xs.length - (intOf i).toNat)
  case atStart => exact ⟨0, by omega, rfl, H0.out, Below.refl _ _⟩
  case round =>
    obtain ⟨k, hk, rfl, hp, hb⟩ := hrel
    by_cases hlt : k < xs.length
    · obtain ⟨b, off, x, rfl, hbl, hx, hc, _⟩ := (hR.later hb).at_ hlt
      have hfx := hf x (List.mem_of_getElem? hx)
      have HC := Lib.hid (fun w => regCheck_calls x w hfx)
      have hB1 : ∀ (o : Obj) (w1 : World), Below (wr.heap.size + 1) (wr.alloc o) w1 → Below w.heap.size w w1 := fun o w1 h => (hb.alloc hb.size o).trans (h.mono (by have := hb.size; omega))
      have HB1 := Lib.hid hB1
      have HN := Lib.hid (listFrom_next xs k x hx (prevOf xs k))
      have HS := Lib.hid (listFrom_stop xs k x hx (prevOf xs k))
      have HP := Lib.hid hp
      have hRr := hR.later hb
      obtain ⟨xn, xt, xh, xl, xw, xa, xb⟩ := x
      have d0 := hc 0 _ rfl; have d1 := hc 1 _ rfl; have d2 := hc 2 _ rfl; have d3 := hc 3 _ rfl; have d4 := hc 4 _ rfl; have d5 := hc 5 _ rfl; have d6 := hc 6 _ rfl
      simp only [Nat.add_zero] at d0 d1 d2 d3 d4 d5 d6
      cases hE : regErr ⟨xn, xt, xh, xl, xw, xa, xb⟩ != 0
      · have hE0 : regErr ⟨xn, xt, xh, xl, xw, xa, xb⟩ = 0 := by simpa using hE
        have HE0 := Lib.hid hE0
        simp only [Reg.enc] at HC
        rw [hE0] at HC
        clear hE hE0 hp hB1 hc
        rcases Nat.eq_zero_or_pos k with hk0 | hk0
        · have hst := Lib.hid (show stepErr (prevOf xs k) ⟨xn, xt, xh, xl, xw, xa, xb⟩ = 0 by rw [hk0]; simp [stepErr, prevOf, HE0.out])
          have hkd : decide (0 < k) = false := by simp; omega
          clear hRr hk0
          go_wp2_with (go_at_call 152; refine (HC.out _).mono ?_; rintro e w1 ⟨rfl, hb1⟩; simp only [World.size_alloc] at hb1)
          go_quiet (fail)
          go_wp2_with fail
          go_quiet (fail)
          go_wp2_with fail
          go_roundw
          case rel => exact ⟨k + 1, by omega, by go_num, by rw [← HN.out hst.out]; exact HP.out, below_drewN (HB1.out _ _ hb1) _⟩
          case measure => simp [intOf]; omega
        · obtain ⟨b', off', y, hab, _, hy, hcy, _⟩ := hRr.at_ (show k - 1 < xs.length by omega)
          simp only [Option.some.injEq, Addr.mk.injEq, and_true] at hab
          obtain ⟨rfl, rfl⟩ := hab
          obtain ⟨yn, yt, yh, yl, yw, ya, yb⟩ := y
          have e0 := hcy 0 _ rfl
          simp only [Nat.add_zero] at e0
          have hpv : prevOf xs k = some yn := by
            obtain ⟨j, rfl⟩ : ∃ j, k = j + 1 := ⟨k - 1, by omega⟩
            simp only [Nat.add_sub_cancel] at hy
            simp [prevOf, hy]
          have hst : stepErr (prevOf xs k) ⟨xn, xt, xh, xl, xw, xa, xb⟩ = if (xn.toList == yn.toList) = true then 7 else if Op.bytesLess xn.toList yn.toList = true then 8 else 0 := by
            rw [hpv]; simp [stepErr, HE0.out]
          have hcell : ∀ w1, Below (wr.heap.size + 1) (wr.alloc (.cells #[.string xn, .int .i64 xt, .int .i64 xh, .int .i64 xl, .int .i64 xw, .int .u8 xa, .bool xb] 44)) w1 → w1.cell? ⟨wr.heap.size, 0, none⟩ = some (.string xn) ∧ w1.cell? ⟨b, off + (k - 1) * 7, none⟩ = some (.string yn) := fun w1 h =>
            ⟨box_cell wr _ _ 0 _ rfl w1 h, by
              rw [h.cell (p := ⟨b, off + (k - 1) * 7, none⟩) (by simp; omega), World.cell?_alloc_lt _ _ _ (by simpa using hbl)]
              exact e0⟩
          have HCELL := Lib.hid hcell
          have hkd : decide (0 < k) = true := by simp; omega
          have hk1 : 1 ≤ k := hk0
          have hkz : (1 : Int) ≤ (k : Int) := by omega
          have hkl : (k : Int) - 1 < (xs.length : Int) := by omega
          have hwr : IntKind.i64.wrap ((k : Int) - 1) = (k : Int) - 1 := IntWalk.i64_in _ (by omega)
          have hkn : ((k : Int) - 1).toNat = k - 1 := by omega
          clear hcell hpv hRr hcy hy e0 hk0
          rcases h1 : xn.toList == yn.toList with _ | _
          · rcases h2 : Op.bytesLess xn.toList yn.toList with _ | _
            · rw [h1, h2, if_neg (by decide), if_neg (by decide)] at hst
              have HST := Lib.hid hst
              clear hst
              go_wp2_with (go_at_call 152; refine (HC.out _).mono ?_; rintro e w1 ⟨rfl, hb1⟩; simp only [World.size_alloc] at hb1; have hq1 := (HCELL.out _ hb1).1; have hq2 := (HCELL.out _ hb1).2)
              go_quiet (fail)
              go_wp2_with fail
              go_quiet (fail)
              go_wp2_with fail
              go_roundw
              case rel => exact ⟨k + 1, by omega, by go_num, by rw [← HN.out HST.out]; exact HP.out, below_drewN (HB1.out _ _ hb1) _⟩
              case measure => simp [intOf]; omega
            · rw [h1, h2, if_neg (by decide), if_pos rfl] at hst
              have HST := Lib.hid hst
              clear hst
              go_wp2_with (go_at_call 152; refine (HC.out _).mono ?_; rintro e w1 ⟨rfl, hb1⟩; simp only [World.size_alloc] at hb1; have hq1 := (HCELL.out _ hb1).1; have hq2 := (HCELL.out _ hb1).2)
              go_quiet (fail)
              go_wp2_with fail
              go_quiet (fail)
              go_wp2_with fail
              go_ret
              exact ⟨ret_int (by rw [← HP.out, HS.out (by rw [HST.out]; rfl), HST.out]), below_drewN (below_drewN (HB1.out _ _ hb1) _) _⟩
          · rw [h1, if_pos rfl] at hst
            have HST := Lib.hid hst
            clear hst
            go_wp2_with (go_at_call 152; refine (HC.out _).mono ?_; rintro e w1 ⟨rfl, hb1⟩; simp only [World.size_alloc] at hb1; have hq1 := (HCELL.out _ hb1).1; have hq2 := (HCELL.out _ hb1).2)
            go_quiet (fail)
            go_wp2_with fail
            go_ret
            exact ⟨ret_int (by rw [← HP.out, HS.out (by rw [HST.out]; rfl), HST.out]), below_drewN (HB1.out _ _ hb1) _⟩
      · have hst : stepErr (prevOf xs k) ⟨xn, xt, xh, xl, xw, xa, xb⟩ = regErr ⟨xn, xt, xh, xl, xw, xa, xb⟩ := by unfold stepErr; exact if_pos hE
        have HST := Lib.hid hst
        simp only [Reg.enc] at HC
        generalize regErr ⟨xn, xt, xh, xl, xw, xa, xb⟩ = E at *
        clear hst hp hB1 hc hRr hfx hx
        go_wp2_with (go_at_call 152; refine (HC.out _).mono ?_; rintro e w1 ⟨rfl, hb1⟩; simp only [World.size_alloc] at hb1)
        go_ret
        exact ⟨ret_int (by rw [← HP.out, HS.out (by rw [HST.out]; exact hE), HST.out]), HB1.out _ _ hb1⟩
    · obtain rfl : k = xs.length := by omega
      rw [List.drop_length] at hp
      have HP := Lib.hid hp
      clear hp H0
      go_wp2_with fail
      go_ret
      exact ⟨ret_int (by rw [← HP.out]; cases prevOf xs xs.length <;> rfl), hb⟩
theorem list_calls (a : Option Addr) (cap : Nat) (xs : List Reg) (w : World) (hR : Regs w a xs) (hf : ∀ x ∈ xs, x.fits) :
    Calls Tryz.prog 86 #[.slice a xs.length cap] w fun e w' => e = .returned (.int .i64 (listErr xs)) ∧ Below w.heap.size w w' := by
  by_cases hn : 16 < xs.length
  · exact list_many a cap xs w hn
  · exact list_few a cap xs w hR hf (by omega)
end Go.Proofs.YtnlnmbcaongehaaGreatDoor
namespace Go.Proofs.YtnlnmbcaongehaaGreatDoor
open Go.RowKit
/-- The address leads to the numbers zs. -/
def Ints (w : World) (a : Option Addr) (zs : List Int) : Prop := SliceOf 1 (fun z => [Value.int .i64 z]) Flat w a zs
theorem Ints.later {w w' : World} {a : Option Addr} {xs : List Int} (h : Ints w a xs) (hb : Below w.heap.size w w') : Ints w' a xs := SliceOf.keeps Flat.keeps w w' a xs hb h
def placeFrom (width : Int) : List Int → Int
  | [] => 0
  | n :: l => if n < 0 then 2 else if width < n then 11 else placeFrom width l
/-- The error of placing rows of some lengths in a region. -/
def placeErr (x : Reg) (zs : List Int) : Int := if (!usableB x) = true then 1 else if x.height < zs.length then 9 else placeFrom x.width zs
theorem placeFrom_at (width : Int) (zs : List Int) (k : Nat) (z : Int) (hz : zs[k]? = some z) : placeFrom width (zs.drop k) = if z < 0 then 2 else if width < z then 11 else placeFrom width (zs.drop (k + 1)) := by
  have hk : k < zs.length := (List.getElem?_eq_some_iff.1 hz).1
  have e : zs[k] = z := (List.getElem?_eq_some_iff.1 hz).2
  rw [List.drop_eq_getElem_cons hk, e, placeFrom]
theorem Tryz.info280 : (Tryz.prog.info? 280).map (fun i => (i.zero, i.size, i.bytes)) = some (some (.agg #[.int .i64 0, .int .i64 0, .int .i64 0]), 3, 24) := by kernel_rfl
/-- The cells of a new block. -/
theorem cells_new (w : World) (cs : Array Value) (t : TypeId) : ∀ j u, cs.toList[j]? = some u → (w.alloc (.cells cs t)).cell? ((⟨w.heap.size, 0, none⟩ : Addr).add j) = some u := by
  intro j u hu
  have hadd : (⟨w.heap.size, 0, none⟩ : Addr).add j = ⟨w.heap.size, j, none⟩ := by unfold Addr.add; split <;> simp_all
  rw [hadd, cell_of_row _ _ j cs t (0, 0) (heap_alloc_last w _)]
  simpa using hu
/-- append(out, x): x a struct, laid in a new block. -/
theorem wpList_append_new {P : Program} (w : World) (cs : Array Value) {ops : Array Oper} {rest : List Oper} {o : Oper} {a : Act} {Q : Exit → Act → World → Prop} (hgd : o.guard = none) (s x : Operand) (t : TypeId)
    (ho : o.op = .call { callee := .builtin .append, args := #[s, x], argTypes := #[t, t] })
    (base : Nat) (e : TypeId) (i : TypeInfo) (z : Value) (size bytes : Nat) (ht : P.underlying t = some (.slice e)) (hi : P.info? e = some i) (hz : i.zero = some z)
    (hsize : i.size = size) (hby : i.bytes = bytes) (hzs : z.cells.size = size) (hsz : 0 < size)
    (v : Value) (n : Nat) (xs : List Value) (hs : a.eval s = v) (hown : w.ownsRow base e size v n xs) (g : Nat) (hx : a.eval x = .slice (some ⟨g, 0, none⟩) 1 1) (hg : g = w.heap.size)
    (hcs : cs.size = size) (h1 : ∀ u ∈ cs.toList, u.oneCell' = true) (h63 : n + 1 ≤ maxLen) (hbytes : (n + 1) * bytes ≤ 140737488355328) (hbase : base ≤ w.heap.size)
    (h : ∀ v' w2, w2.ownsRow base e size v' (n + 1) (xs ++ cs.toList) → (w.alloc (.cells cs e)).grownBy w2 v.ownBlock → wpList P ops Q rest (a.put o.dst v') w2) : wpList P ops Q (o :: rest) a (w.alloc (.cells cs e)) := by
  subst hg
  refine wpList_append_own _ hgd s x t ho base e i z size bytes ht hi hz hsize hby hzs hsz v n xs hs (hown.alloc _) ⟨w.heap.size, 0, none⟩ 1 1 cs.toList hx (by simpa using hcs) (cells_new w cs e) h1 h63 hbytes (by simp; omega) ?_
  intro v' w2 h2 h3 _
  exact h v' w2 h2 h3
def PlacePost (E : Int) (w : World) (e : Ending) (w' : World) : Prop := ∃ v, e = .returned (.tuple #[v, .int .i64 E]) ∧ Below w.heap.size w w'
theorem ret_two {k : IntKind} {v : Value} {a b : Int} (h : a = b) : Ending.returned (.tuple #[v, .int k a]) = .returned (.tuple #[v, .int k b]) := by rw [h]
/-- Place's relation: the row that grows; all that was there. -/
def Grow3 (b : Nat) (W0 : World) (k : Nat) (v : Value) (wr : World) : Prop := (∃ xs, wr.ownsRow b 280 3 v k xs) ∧ Below b W0 wr
theorem Grow3.step {b k : Nat} {W0 wr w2 : World} {v v' : Value} {o o' : Obj} {xs : List Value} (h : Grow3 b W0 k v wr) (hW : b ≤ W0.heap.size) (hown : w2.ownsRow b 280 3 v' (k + 1) xs)
    (hg : ((wr.alloc o).alloc o').grownBy w2 v.ownBlock) : Grow3 b W0 (k + 1) v' w2 := by
  obtain ⟨⟨ys, ho⟩, hb⟩ := h
  have h1 : b ≤ wr.heap.size := Nat.le_trans hW hb.size
  exact ⟨⟨xs, hown⟩, ((hb.alloc h1 o).alloc (by simp; omega) o').grown hg (by simp; omega) (fun j hj => (ho.lt j hj).1)⟩
set_option maxRecDepth 100000 in
set_option maxHeartbeats 6400000 in
theorem place_false (x : Reg) (a : Option Addr) (cap : Nat) (zs : List Int) (w : World) (hf : x.fits) (hI : Ints w a zs) (hl : zs.length ≤ 4000000) (hB : x.bottom = false) :
    Calls Tryz.prog 157 #[.agg x.enc.toArray, .slice a zs.length cap] w (PlacePost (placeErr x zs) w) := by
  have hU := fun w => usable_calls x w hf
  generalize hG : placeErr x zs = G
  unfold placeErr at hG
  obtain ⟨nm, top, height, left, width, align, bottom⟩ := x
  obtain ⟨_, hT, hH, hL, hW, ha0, ha1⟩ := hf
  simp only [i64] at hT hH hL hW ha0 ha1
  simp only at hB
  subst hB
  generalize usableB ⟨nm, top, height, left, width, align, false⟩ = U at *
  simp only [Reg.enc] at hU hG ⊢
  have HU := Lib.hid hU
  have HG := Lib.hid hG
  clear hU hG
  rcases (show U = false ∨ (U = true ∧ height < zs.length ∧ decide (height < (zs.length : Int)) = true) ∨ (U = true ∧ zs.length ≤ height ∧ decide (height < (zs.length : Int)) = false) by cases U <;> simp <;> omega) with rfl | ⟨rfl, hlh, hld⟩ | ⟨rfl, hlh, hld⟩
  all_goals
    generalize hcs : #[Value.string nm, .int .i64 top, .int .i64 height, .int .i64 left, .int .i64 width, .int .u8 align, .bool false] = cs
    have f0 := box_cell w cs 44 0 (.string nm) (by rw [← hcs]; rfl)
    have f1 := box_cell w cs 44 1 (.int .i64 top) (by rw [← hcs]; rfl)
    have f2 := box_cell w cs 44 2 (.int .i64 height) (by rw [← hcs]; rfl)
    have f3 := box_cell w cs 44 3 (.int .i64 left) (by rw [← hcs]; rfl)
    have f4 := box_cell w cs 44 4 (.int .i64 width) (by rw [← hcs]; rfl)
    have f5 := box_cell w cs 44 5 (.int .u8 align) (by rw [← hcs]; rfl)
    have f6 := box_cell w cs 44 6 (.bool false) (by rw [← hcs]; rfl)
    have HB := Lib.hid (fun (w1 : World) (h : Below (w.heap.size + 1) (w.alloc (.cells cs 44)) w1) => box_below h)
    have hb0 : Below (w.heap.size + 1) (w.alloc (.cells cs 44)) (w.alloc (.cells cs 44)) := Below.refl _ _
    have hsz : (w.alloc (.cells cs 44)).heap.size = w.heap.size + 1 := World.size_alloc _ _
    generalize hW0 : w.alloc (.cells cs 44) = W0 at *
    have HW0 := Lib.hid hW0
    have HSZ := Lib.hid hsz
    clear hW0 hsz
    go_enter Tryz.func157, Tryz.ntmps157
    subst hcs
    go_wp2_with fail
    rw [HW0.out]
    refine (HU.out _).mono ?_
    rintro e w1 ⟨rfl, hb1⟩
    rw [HSZ.out] at hb1
    clear HW0
    go_wp2_with fail
  · go_ret2
    exact ⟨.slice none 0 0, ret_two (by rw [← HG.out, if_pos (by decide)]), HB.out _ hb1⟩
  · go_ret2
    exact ⟨.slice none 0 0, ret_two (by rw [← HG.out, if_neg (by decide), if_pos hlh]), HB.out _ hb1⟩
  · obtain ⟨i0, hi, hz0, hz1, hz2⟩ := info_parts Tryz.info280
    have HI := Lib.hid hi; have H0 := Lib.hid hz0; have H1 := Lib.hid hz1; have H2 := Lib.hid hz2
    clear hi hz0 hz1 hz2
    have hp0 : placeFrom width (zs.drop 0) = G := by
      rw [List.drop_zero, ← HG.out, if_neg (by decide), if_neg (by omega)]
    have HP0 := Lib.hid hp0
    clear hp0 HG
    go_loopw [7, 34] (fun v i wr => ∃ k : Nat, k ≤ zs.length ∧ i = .int .i64 k ∧ placeFrom width (zs.drop k) = G ∧ Grow3 (w.heap.size + 1) W0 k v wr) (fun _ i _ => zs.length - (intOf i).toNat)
    case atStart => exact ⟨0, by omega, rfl, HP0.out, ⟨[], World.ownsRow_nil _ _ _ _⟩, hb1⟩
    case round =>
      obtain ⟨k, hk, rfl, hp, hGr⟩ := hrel
      have hbr := hGr.2
      have hlt0 : w.heap.size < wr.heap.size := by have := hbr.size; rw [HSZ.out] at this; omega
      by_cases hlt : k < zs.length
      · obtain ⟨b, off, z, rfl, hbl, hz, hc, _⟩ := (hI.later (HB.out _ hbr)).at_ hlt
        have d0 := hc 0 _ rfl
        simp only [Nat.add_zero, Nat.mul_one] at d0
        rw [placeFrom_at width zs k z hz] at hp
        have HP := Lib.hid hp
        clear hp hc hz HP0 hI
        rcases (show z < 0 ∨ (0 ≤ z ∧ width < z) ∨ (0 ≤ z ∧ z ≤ width) by omega) with h | ⟨h, h'⟩ | ⟨h, h'⟩
        · go_wp2_with fail
          go_ret2
          exact ⟨.slice none 0 0, ret_two (by rw [← HP.out, if_pos h]), HB.out _ hbr⟩
        · go_wp2_with fail
          go_ret2
          exact ⟨.slice none 0 0, ret_two (by rw [← HP.out, if_neg (by omega), if_pos h']), HB.out _ hbr⟩
        · rw [if_neg (by omega), if_neg (by omega)] at HP
          have hal : (align = 3 ∨ align = 2 ∨ ((align == 3) = false ∧ (align == 2) = false)) := by
            by_cases h3 : align = 3
            · exact .inl h3
            · by_cases h2 : align = 2
              · exact .inr (.inl h2)
              · exact .inr (.inr ⟨by simpa using h3, by simpa using h2⟩)
          rcases hal with rfl | rfl | ⟨e3, e2⟩
          all_goals
            obtain ⟨xs, hown⟩ := hGr.1
            go_wp2_with (at_builtin; refine wpList_append_new _ _ rfl (.tmp 75) (.tmp 77) 226 rfl (w.heap.size + 1) 280 i0 _ 3 24 Tryz.underlying226 HI.out H0.out H1.out H2.out rfl (by decide) _ _ _ rfl (hown.alloc _) _ rfl (by simp) rfl ?h1 ?h63 ?hb ?hbase ?_)
            case h1 => exact ⟨rfl, rfl, rfl⟩
            case h63 => unfold maxLen; omega
            case hb => omega
            case hbase => simp; omega
            intro v' w2 hown' hgrow
            have R := Grow3.step hGr (by rw [HSZ.out]; omega) hown' hgrow
            clear hown' hgrow hGr hown
            go_wp2_with fail
            go_roundw
            case rel => exact ⟨k + 1, by omega, by go_num, HP.out, R⟩
            case measure => simp [intOf]; omega
      · obtain rfl : k = zs.length := by omega
        rw [List.drop_length] at hp
        have HP := Lib.hid hp
        clear hp HP0
        go_wp2_with fail
        go_ret2
        exact ⟨_, ret_two (by rw [← HP.out]; rfl), HB.out _ hbr⟩
set_option maxRecDepth 100000 in
set_option maxHeartbeats 6400000 in
theorem place_true (x : Reg) (a : Option Addr) (cap : Nat) (zs : List Int) (w : World) (hf : x.fits) (hI : Ints w a zs) (hl : zs.length ≤ 4000000) (hB : x.bottom = true) :
    Calls Tryz.prog 157 #[.agg x.enc.toArray, .slice a zs.length cap] w (PlacePost (placeErr x zs) w) := by
  have hU := fun w => usable_calls x w hf
  generalize hG : placeErr x zs = G
  unfold placeErr at hG
  obtain ⟨nm, top, height, left, width, align, bottom⟩ := x
  obtain ⟨_, hT, hH, hL, hW, ha0, ha1⟩ := hf
  simp only [i64] at hT hH hL hW ha0 ha1
  simp only at hB
  subst hB
  generalize usableB ⟨nm, top, height, left, width, align, true⟩ = U at *
  simp only [Reg.enc] at hU hG ⊢
  have HU := Lib.hid hU
  have HG := Lib.hid hG
  clear hU hG
  rcases (show U = false ∨ (U = true ∧ height < zs.length ∧ decide (height < (zs.length : Int)) = true) ∨ (U = true ∧ zs.length ≤ height ∧ decide (height < (zs.length : Int)) = false) by cases U <;> simp <;> omega) with rfl | ⟨rfl, hlh, hld⟩ | ⟨rfl, hlh, hld⟩
  all_goals
    generalize hcs : #[Value.string nm, .int .i64 top, .int .i64 height, .int .i64 left, .int .i64 width, .int .u8 align, .bool true] = cs
    have f0 := box_cell w cs 44 0 (.string nm) (by rw [← hcs]; rfl)
    have f1 := box_cell w cs 44 1 (.int .i64 top) (by rw [← hcs]; rfl)
    have f2 := box_cell w cs 44 2 (.int .i64 height) (by rw [← hcs]; rfl)
    have f3 := box_cell w cs 44 3 (.int .i64 left) (by rw [← hcs]; rfl)
    have f4 := box_cell w cs 44 4 (.int .i64 width) (by rw [← hcs]; rfl)
    have f5 := box_cell w cs 44 5 (.int .u8 align) (by rw [← hcs]; rfl)
    have f6 := box_cell w cs 44 6 (.bool true) (by rw [← hcs]; rfl)
    have HB := Lib.hid (fun (w1 : World) (h : Below (w.heap.size + 1) (w.alloc (.cells cs 44)) w1) => box_below h)
    have hb0 : Below (w.heap.size + 1) (w.alloc (.cells cs 44)) (w.alloc (.cells cs 44)) := Below.refl _ _
    have hsz : (w.alloc (.cells cs 44)).heap.size = w.heap.size + 1 := World.size_alloc _ _
    generalize hW0 : w.alloc (.cells cs 44) = W0 at *
    have HW0 := Lib.hid hW0
    have HSZ := Lib.hid hsz
    clear hW0 hsz
    go_enter Tryz.func157, Tryz.ntmps157
    subst hcs
    go_wp2_with fail
    rw [HW0.out]
    refine (HU.out _).mono ?_
    rintro e w1 ⟨rfl, hb1⟩
    rw [HSZ.out] at hb1
    clear HW0
    go_wp2_with fail
  · go_ret2
    exact ⟨.slice none 0 0, ret_two (by rw [← HG.out, if_pos (by decide)]), HB.out _ hb1⟩
  · go_ret2
    exact ⟨.slice none 0 0, ret_two (by rw [← HG.out, if_neg (by decide), if_pos hlh]), HB.out _ hb1⟩
  · obtain ⟨i0, hi, hz0, hz1, hz2⟩ := info_parts Tryz.info280
    have HI := Lib.hid hi; have H0 := Lib.hid hz0; have H1 := Lib.hid hz1; have H2 := Lib.hid hz2
    clear hi hz0 hz1 hz2
    have hp0 : placeFrom width (zs.drop 0) = G := by
      rw [List.drop_zero, ← HG.out, if_neg (by decide), if_neg (by omega)]
    have HP0 := Lib.hid hp0
    clear hp0 HG
    go_loopw [7, 34] (fun v i wr => ∃ k : Nat, k ≤ zs.length ∧ i = .int .i64 k ∧ placeFrom width (zs.drop k) = G ∧ Grow3 (w.heap.size + 1) W0 k v wr) (fun _ i _ => zs.length - (intOf i).toNat)
    case atStart => exact ⟨0, by omega, rfl, HP0.out, ⟨[], World.ownsRow_nil _ _ _ _⟩, hb1⟩
    case round =>
      obtain ⟨k, hk, rfl, hp, hGr⟩ := hrel
      have hbr := hGr.2
      have hlt0 : w.heap.size < wr.heap.size := by have := hbr.size; rw [HSZ.out] at this; omega
      by_cases hlt : k < zs.length
      · obtain ⟨b, off, z, rfl, hbl, hz, hc, _⟩ := (hI.later (HB.out _ hbr)).at_ hlt
        have d0 := hc 0 _ rfl
        simp only [Nat.add_zero, Nat.mul_one] at d0
        rw [placeFrom_at width zs k z hz] at hp
        have HP := Lib.hid hp
        clear hp hc hz HP0 hI
        rcases (show z < 0 ∨ (0 ≤ z ∧ width < z) ∨ (0 ≤ z ∧ z ≤ width) by omega) with h | ⟨h, h'⟩ | ⟨h, h'⟩
        · go_wp2_with fail
          go_ret2
          exact ⟨.slice none 0 0, ret_two (by rw [← HP.out, if_pos h]), HB.out _ hbr⟩
        · go_wp2_with fail
          go_ret2
          exact ⟨.slice none 0 0, ret_two (by rw [← HP.out, if_neg (by omega), if_pos h']), HB.out _ hbr⟩
        · rw [if_neg (by omega), if_neg (by omega)] at HP
          have hal : (align = 3 ∨ align = 2 ∨ ((align == 3) = false ∧ (align == 2) = false)) := by
            by_cases h3 : align = 3
            · exact .inl h3
            · by_cases h2 : align = 2
              · exact .inr (.inl h2)
              · exact .inr (.inr ⟨by simpa using h3, by simpa using h2⟩)
          rcases hal with rfl | rfl | ⟨e3, e2⟩
          all_goals
            obtain ⟨xs, hown⟩ := hGr.1
            go_wp2_with (at_builtin; refine wpList_append_new _ _ rfl (.tmp 75) (.tmp 77) 226 rfl (w.heap.size + 1) 280 i0 _ 3 24 Tryz.underlying226 HI.out H0.out H1.out H2.out rfl (by decide) _ _ _ rfl (hown.alloc _) _ rfl (by simp) rfl ?h1 ?h63 ?hb ?hbase ?_)
            case h1 => exact ⟨rfl, rfl, rfl⟩
            case h63 => unfold maxLen; omega
            case hb => omega
            case hbase => simp; omega
            intro v' w2 hown' hgrow
            have R := Grow3.step hGr (by rw [HSZ.out]; omega) hown' hgrow
            clear hown' hgrow hGr hown
            go_wp2_with fail
            go_roundw
            case rel => exact ⟨k + 1, by omega, by go_num, HP.out, R⟩
            case measure => simp [intOf]; omega
      · obtain rfl : k = zs.length := by omega
        rw [List.drop_length] at hp
        have HP := Lib.hid hp
        clear hp HP0
        go_wp2_with fail
        go_ret2
        exact ⟨_, ret_two (by rw [← HP.out]; rfl), HB.out _ hbr⟩
theorem place_calls2 (x : Reg) (a : Option Addr) (cap : Nat) (zs : List Int) (w : World) (hf : x.fits) (hI : Ints w a zs) (hl : zs.length ≤ 4000000) :
    Calls Tryz.prog 157 #[.agg x.enc.toArray, .slice a zs.length cap] w (PlacePost (placeErr x zs) w) := by
  cases hB : x.bottom
  · exact place_false x a cap zs w hf hI hl hB
  · exact place_true x a cap zs w hf hI hl hB
end Go.Proofs.YtnlnmbcaongehaaGreatDoor
