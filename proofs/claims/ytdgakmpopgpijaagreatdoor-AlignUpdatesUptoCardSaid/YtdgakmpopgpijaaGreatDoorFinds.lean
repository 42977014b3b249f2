/- The contracts of align.Find, document.Find and align.has: where a link or an event with an ID lies. -/
import Derived.Test.YtdgakmpopgpijaaGreatDoorForm
import Derived.Test.YtdgakmpopgpijaaGreatDoorDoc
import Derived.Test.YtdgakmpopgpijaaGreatDoorSame
set_option linter.unusedVariables false
namespace Go.Proofs.YtdgakmpopgpijaaGreatDoor
open Go.RowKit

def posFrom {α : Type} (p : α → Bool) : List α → Nat → Int
  | [], _ => -1
  | x :: l, i => if p x = true then (i : Int) else posFrom p l (i + 1)
/-- The index of the first element with a property, -1 if there is none. -/
def posOf {α : Type} (p : α → Bool) (xs : List α) : Int := posFrom p xs 0
theorem posOf_idx {α : Type} [Inhabited α] (p : α → Bool) (xs : List α) : Lib.idxBy (fun _ y => p y) xs default = posOf p xs := by
  unfold Lib.idxBy posOf
  generalize 0 = i
  induction xs generalizing i with
  | nil => rfl
  | cons x l ih => simp only [Lib.idxByFrom, posFrom, ih]
theorem posFrom_bd {α : Type} (p : α → Bool) : ∀ (xs : List α) (i : Nat), posFrom p xs i = -1 ∨ ((i : Int) ≤ posFrom p xs i ∧ posFrom p xs i < (i : Int) + xs.length)
  | [], i => .inl rfl
  | x :: l, i => by
    unfold posFrom
    split
    · right; simp; omega
    · rcases posFrom_bd p l (i + 1) with h | h
      · exact .inl h
      · right; simp only [List.length_cons]; omega
theorem posOf_bd {α : Type} (p : α → Bool) (xs : List α) : posOf p xs = -1 ∨ (0 ≤ posOf p xs ∧ posOf p xs < xs.length) := by
  rcases posFrom_bd p xs 0 with h | h
  · exact .inl h
  · exact .inr ⟨by unfold posOf; omega, by unfold posOf; omega⟩

/-- A box of one cell, and the one behind it. -/
theorem linkIs_calls (x : Lk) (g : Nat) (id : Int) (w : World) (hg : w.cell? ⟨g, 0, none⟩ = some (.int .i64 id)) (hl : g < w.heap.size) :
    Calls Tryz.prog 46 #[.agg x.enc.toArray, .pointer (some ⟨g, 0, none⟩)] w fun e w' => e = .returned (.bool (x.tpl == id)) ∧ Below w.heap.size w w' := by
  obtain ⟨a, b, c⟩ := x
  simp only [Lk.enc]
  have hg2 : ∀ o, (w.alloc o).cell? ⟨g, 0, none⟩ = some (.int .i64 id) := fun o => (World.cell?_alloc_lt _ _ _ (by simpa using hl)).trans hg
  go_enter Tryz.func46, Tryz.ntmps46
  go_wp2_with fail
  go_ret
  exact ⟨rfl, (Below.refl _ _).alloc (Nat.le_refl _) _⟩
theorem eventIs_calls (x : Ev) (g : Nat) (id : Int) (w : World) (hg : w.cell? ⟨g, 0, none⟩ = some (.int .i64 id)) (hl : g < w.heap.size) :
    Calls Tryz.prog 77 #[.agg x.enc.toArray, .pointer (some ⟨g, 0, none⟩)] w fun e w' => e = .returned (.bool (x.id == id)) ∧ Below w.heap.size w w' := by
  obtain ⟨id', inn, out, region, kind, speaker, a, cap, xs⟩ := x
  simp only [Ev.enc]
  have hg2 : ∀ o, (w.alloc o).cell? ⟨g, 0, none⟩ = some (.int .i64 id) := fun o => (World.cell?_alloc_lt _ _ _ (by simpa using hl)).trans hg
  go_enter Tryz.func77, Tryz.ntmps77
  go_wp2_with fail
  go_ret
  exact ⟨rfl, (Below.refl _ _).alloc (Nat.le_refl _) _⟩

theorem idx45_none (a : Option Addr) (cap : Nat) (v : Value) (w : World) : Calls Tryz.prog 45 #[.slice a 0 cap, v] w fun e w' => e = .returned (.int .i64 (-1)) ∧ w = w' := by
  go_enter Tryz.func45, Tryz.ntmps45
  go_wp2_with fail
  refine wp_loop_rounds 1 ?_
  rw [rounds_succ]
  go_wp2_with fail
  go_ret
  exact ⟨rfl, rfl⟩
theorem idx76_none (a : Option Addr) (cap : Nat) (v : Value) (w : World) : Calls Tryz.prog 76 #[.slice a 0 cap, v] w fun e w' => e = .returned (.int .i64 (-1)) ∧ w = w' := by
  go_enter Tryz.func76, Tryz.ntmps76
  go_wp2_with fail
  refine wp_loop_rounds 1 ?_
  rw [rounds_succ]
  go_wp2_with fail
  go_ret
  exact ⟨rfl, rfl⟩

instance : Inhabited Lk := ⟨⟨0, 0, 0⟩⟩
instance : Inhabited Ev := ⟨⟨0, 0, 0, ⟨#[]⟩, 0, ⟨#[]⟩, none, 0, []⟩⟩

def hasTpl (id : Int) (x : Lk) : Bool := x.tpl == id
def hasId (id : Int) (x : Ev) : Bool := x.id == id

theorem idx45_calls (a : Option Addr) (cap : Nat) (xs : List Lk) (g : Nat) (id : Int) (w : World) (hr : LksAt w a xs) (hl : xs.length ≤ 4000000) (hg : w.cell? ⟨g, 0, none⟩ = some (.int .i64 id)) (hgl : g < w.heap.size) :
    Calls Tryz.prog 45 #[.slice a xs.length cap, .func (.func 46) #[] #[.pointer (some ⟨g, 0, none⟩)]] w fun e w' => e = .returned (.int .i64 (posOf (hasTpl id) xs)) ∧ Below w.heap.size w w' := by
  rcases hr with rfl | ⟨b, off, rfl, hb, hc⟩
  · exact (idx45_none a cap _ w).mono fun e w' ⟨he, hw⟩ => ⟨he, hw ▸ Below.refl _ _⟩
  · have h := Tryz.slices_IndexFunc_f45 3 (fun w => by kernel_rfl) (fun w => by kernel_rfl) Lk.enc (fun _ => rfl) (hasTpl id) 46 #[.pointer (some ⟨g, 0, none⟩)] (fun args w => by kernel_rfl) b off xs.length cap xs w
      (fun W x hW => (linkIs_calls x g id W ((hW.cell (p := ⟨g, 0, none⟩) hgl).trans hg) (Nat.lt_of_lt_of_le hgl hW.size)).mono fun e w' ⟨he, hw⟩ => ⟨he, hW.trans (hw.mono hW.size)⟩)
      (Nat.le_refl _) (by omega) hb (fun j hj i v hv => (hc j _ (getBang xs j hj)).1 i v hv)
    rw [List.take_length, posOf_idx] at h
    exact h
theorem idx76_calls (a : Option Addr) (cap : Nat) (xs : List Ev) (g : Nat) (id : Int) (w : World) (hr : EvsAt w a xs) (hl : xs.length ≤ 4000000) (hg : w.cell? ⟨g, 0, none⟩ = some (.int .i64 id)) (hgl : g < w.heap.size) :
    Calls Tryz.prog 76 #[.slice a xs.length cap, .func (.func 77) #[] #[.pointer (some ⟨g, 0, none⟩)]] w fun e w' => e = .returned (.int .i64 (posOf (hasId id) xs)) ∧ Below w.heap.size w w' := by
  rcases hr with rfl | ⟨b, off, rfl, hb, hc⟩
  · exact (idx76_none a cap _ w).mono fun e w' ⟨he, hw⟩ => ⟨he, hw ▸ Below.refl _ _⟩
  · have h := Tryz.slices_IndexFunc_f76 7 (fun w => by kernel_rfl) (fun w => by kernel_rfl) Ev.enc (fun _ => rfl) (hasId id) 77 #[.pointer (some ⟨g, 0, none⟩)] (fun args w => by kernel_rfl) b off xs.length cap xs w
      (fun W x hW => (eventIs_calls x g id W ((hW.cell (p := ⟨g, 0, none⟩) hgl).trans hg) (Nat.lt_of_lt_of_le hgl hW.size)).mono fun e w' ⟨he, hw⟩ => ⟨he, hW.trans (hw.mono hW.size)⟩)
      (Nat.le_refl _) (by omega) hb (fun j hj i v hv => (hc j _ (getBang xs j hj)).1 i v hv)
    rw [List.take_length, posOf_idx] at h
    exact h

theorem linkFind_calls (a : Option Addr) (cap : Nat) (xs : List Lk) (id : Int) (w : World) (hr : LksAt w a xs) (hl : xs.length ≤ 4000000) :
    Calls Tryz.prog 14 #[.slice a xs.length cap, .int .i64 id] w fun e w' => e = .returned (.int .i64 (posOf (hasTpl id) xs)) ∧ Below w.heap.size w w' := by
  have HC := Lib.hid (idx45_calls a cap xs w.heap.size id (w.alloc (.cells #[.int .i64 id] 2)) (hr.later ((Below.refl _ _).alloc (Nat.le_refl _) _)) hl (box_cell w #[.int .i64 id] 2 0 _ rfl _ (Below.refl _ _)) (by simp))
  go_enter Tryz.func14, Tryz.ntmps14
  go_wp2_with fail
  refine HC.out.mono ?_
  rintro e w1 ⟨rfl, hb⟩
  rw [World.size_alloc] at hb
  go_wp2_with fail
  go_ret
  exact ⟨rfl, box_below hb⟩

set_option maxHeartbeats 800000 in
theorem docFind_calls (d : Doc) (id : Int) (w : World) (hr : EvsAt w d.ea d.evs) (hl : d.evs.length ≤ 4000000) :
    Calls Tryz.prog 51 #[.agg d.enc.toArray, .int .i64 id] w fun e w' => e = .returned (.int .i64 (posOf (hasId id) d.evs)) ∧ Below w.heap.size w w' := by
  have hb2 := fun o => ((Below.refl w.heap.size w).alloc (Nat.le_refl _) o)
  have HC := Lib.hid (idx76_calls d.ea d.ec d.evs (w.heap.size + 1) id ((w.alloc (.cells d.enc.toArray 28)).alloc (.cells #[.int .i64 id] 2)) (hr.later (((Below.refl _ _).alloc (Nat.le_refl _) _).alloc (by simp) _)) hl (box2_snd w d.enc.toArray #[.int .i64 id] 28 2 0 _ rfl _ (Below.refl _ _)) (by simp))
  obtain ⟨title, lang, rate, drop, last, ra, rc, regs, ea, ec, evs, ca, cc, cms⟩ := d
  simp only [Doc.enc] at HC ⊢
  clear hb2
  go_enter Tryz.func51, Tryz.ntmps51
  go_wp2_with fail
  refine HC.out.mono ?_
  rintro e w1 ⟨rfl, hb⟩
  have hb' := box2_below (hb.mono (by simp))
  go_wp2_with fail
  go_ret
  exact ⟨rfl, hb'⟩

set_option maxHeartbeats 800000 in
theorem has_calls (d : Doc) (id : Int) (w : World) (hr : EvsAt w d.ea d.evs) (hl : d.evs.length ≤ 4000000) :
    Calls Tryz.prog 37 #[.agg d.enc.toArray, .int .i64 id] w fun e w' => e = .returned (.bool (decide (0 ≤ posOf (hasId id) d.evs))) ∧ Below w.heap.size w w' := by
  have HC := Lib.hid (docFind_calls d id (w.alloc (.cells d.enc.toArray 28)) (hr.later (((Below.refl _ _).alloc (Nat.le_refl _) _))) hl)
  generalize posOf (hasId id) d.evs = F at *
  obtain ⟨title, lang, rate, drop, last, ra, rc, regs, ea, ec, evs, ca, cc, cms⟩ := d
  simp only [Doc.enc] at HC ⊢
  go_enter Tryz.func37, Tryz.ntmps37
  go_wp2_with fail
  refine HC.out.mono ?_
  rintro e w1 ⟨rfl, hb⟩
  rw [World.size_alloc] at hb
  go_wp2_with fail
  go_ret
  exact ⟨rfl, box_below hb⟩

end Go.Proofs.YtdgakmpopgpijaaGreatDoor
