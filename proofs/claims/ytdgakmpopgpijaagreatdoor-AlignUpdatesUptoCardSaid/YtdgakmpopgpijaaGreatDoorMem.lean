/- Slices of structs in memory: what is read of them, and that later worlds keep them. -/
import Derived.Test.YtdgakmpopgpijaaGreatDoorRegion
import Derived.Deep.RegionWith
set_option linter.unusedVariables false
namespace Go.Proofs.YtdgakmpopgpijaaGreatDoor
open Go.RowKit

/-- The address leads to the elements xs, of k cells each; of each Ok holds (what lies behind it). -/
def SliceOf {α : Type} (k : Nat) (enc : α → List Value) (Ok : World → α → Prop) (w : World) (a : Option Addr) (xs : List α) : Prop :=
  xs = [] ∨ ∃ b off, a = some ⟨b, off, none⟩ ∧ b < w.heap.size ∧ ∀ i x, xs[i]? = some x → (∀ j v, (enc x)[j]? = some v → w.cell? ⟨b, off + i * k + j, none⟩ = some v) ∧ Ok w x

def Flat {α : Type} (_ : World) (_ : α) : Prop := True

theorem SliceOf.at_ {α : Type} {k : Nat} {enc : α → List Value} {Ok : World → α → Prop} {w : World} {a : Option Addr} {xs : List α} (h : SliceOf k enc Ok w a xs) {i : Nat} (hi : i < xs.length) :
    ∃ b off x, a = some ⟨b, off, none⟩ ∧ b < w.heap.size ∧ xs[i]? = some x ∧ (∀ j v, (enc x)[j]? = some v → w.cell? ⟨b, off + i * k + j, none⟩ = some v) ∧ Ok w x := by
  rcases h with rfl | ⟨b, off, rfl, hb, hc⟩
  · simp at hi
  · have := hc i xs[i] (List.getElem?_eq_getElem hi)
    exact ⟨b, off, xs[i], rfl, hb, List.getElem?_eq_getElem hi, this.1, this.2⟩

/-- A fact that later worlds keep. -/
def Keeps {α : Type} (Ok : World → α → Prop) : Prop := ∀ (w w' : World) (x : α), Below w.heap.size w w' → Ok w x → Ok w' x

theorem Flat.keeps {α : Type} : Keeps (Flat (α := α)) := fun _ _ _ _ _ => trivial

theorem SliceOf.keeps {α : Type} {k : Nat} {enc : α → List Value} {Ok : World → α → Prop} (hk : Keeps Ok) (w w' : World) (a : Option Addr) (xs : List α) (hb : Below w.heap.size w w') (h : SliceOf k enc Ok w a xs) : SliceOf k enc Ok w' a xs := by
  rcases h with h | ⟨b, off, rfl, hlt, hc⟩
  · exact .inl h
  · refine .inr ⟨b, off, rfl, Nat.lt_of_lt_of_le hlt hb.size, fun i x hx => ⟨fun j v hv => ?_, hk w w' x hb (hc i x hx).2⟩⟩
    rw [hb.cell (p := ⟨b, off + i * k + j, none⟩) hlt]
    exact (hc i x hx).1 j v hv

def Regs (w : World) (a : Option Addr) (xs : List Reg) : Prop := SliceOf 7 Reg.enc Flat w a xs
theorem Regs.later {w w' : World} {a : Option Addr} {xs : List Reg} (h : Regs w a xs) (hb : Below w.heap.size w w') : Regs w' a xs := SliceOf.keeps Flat.keeps w w' a xs hb h

/-- The default region. -/
def defReg : Reg := ⟨⟨#[]⟩, 11, 4, 0, 32, 2, true⟩
def zeroReg : Reg := ⟨⟨#[]⟩, 0, 0, 0, 0, 0, false⟩

theorem default_calls (w : World) : Calls Tryz.prog 109 #[] w fun e w' => e = .returned (.agg defReg.enc.toArray) ∧ Below w.heap.size w w' := by
  simp only [defReg, Reg.enc]
  go_enter Tryz.func109, Tryz.ntmps109
  go_wp2
  exact bodyPost_ret (v := .agg #[.string ⟨#[]⟩, .int .i64 11, .int .i64 4, .int .i64 0, .int .i64 32, .int .u8 2, .bool true]) (by simp [results, Tryz.results109, go_sem]) rfl ⟨rfl, (Below.refl _ _).alloc (Nat.le_refl _) _⟩

/-- Whether a region is the default one. -/
def isDef (x : Reg) : Bool := (x.name.toList == []) && (x.top == 11) && (x.height == 4) && (x.left == 0) && (x.width == 32) && (x.align == 2) && (x.bottom == true)
/-- Whether a region is accepted, or the default one. -/
def usableB (x : Reg) : Bool := isDef x || regErr x == 0

theorem run_isDef (x : Reg) (w : World) : (binOp .eql 101 (.agg x.enc.toArray) (.agg defReg.enc.toArray)).run Tryz.prog w = .ok (.bool (isDef x)) w := by
  simp [go_sem, Reg.enc, defReg, isDef]
  repeat' split
  all_goals simp_all

set_option maxHeartbeats 1600000 in
theorem usable_calls (x : Reg) (w : World) (hf : x.fits) :
    Calls Tryz.prog 115 #[.agg x.enc.toArray] w fun e w' => e = .returned (.bool (usableB x)) ∧ Below w.heap.size w w' := by
  have hU : usableB x = (isDef x || regErr x == 0) := rfl
  have hq := run_isDef x
  have hc := fun w => regCheck_calls x w hf
  have hd := fun w => default_calls w
  obtain ⟨nm, top, height, left, width, align, bottom⟩ := x
  generalize regErr ⟨nm, top, height, left, width, align, bottom⟩ = E at *
  generalize usableB ⟨nm, top, height, left, width, align, bottom⟩ = U at *
  generalize hD : isDef ⟨nm, top, height, left, width, align, bottom⟩ = D at *
  simp only [Reg.enc, defReg] at hq hc hd ⊢
  have HC := Lib.hid hc; have HD := Lib.hid hd
  clear hc hd hf hD
  generalize hcs : #[Value.string nm, .int .i64 top, .int .i64 height, .int .i64 left, .int .i64 width, .int .u8 align, .bool bottom] = cs
  have f0 := box_cell w cs 101 0 (.string nm) (by rw [← hcs]; rfl)
  have f1 := box_cell w cs 101 1 (.int .i64 top) (by rw [← hcs]; rfl)
  have f2 := box_cell w cs 101 2 (.int .i64 height) (by rw [← hcs]; rfl)
  have f3 := box_cell w cs 101 3 (.int .i64 left) (by rw [← hcs]; rfl)
  have f4 := box_cell w cs 101 4 (.int .i64 width) (by rw [← hcs]; rfl)
  have f5 := box_cell w cs 101 5 (.int .u8 align) (by rw [← hcs]; rfl)
  have f6 := box_cell w cs 101 6 (.bool bottom) (by rw [← hcs]; rfl)
  have HB := Lib.hid (fun (w1 : World) (h : Below (w.heap.size + 1) (w.alloc (.cells cs 101)) w1) => box_below h)
  have hb0 : Below (w.heap.size + 1) (w.alloc (.cells cs 101)) (w.alloc (.cells cs 101)).drew := (Below.refl _ _).drew
  have hsz : (w.alloc (.cells cs 101)).heap.size = w.heap.size + 1 := World.size_alloc _ _
  generalize hW0 : w.alloc (.cells cs 101) = W0 at *
  have HW0 := Lib.hid hW0
  have HSZ := Lib.hid hsz
  clear hW0 hsz
  go_enter Tryz.func115, Tryz.ntmps115
  subst hcs
  go_wp2_with fail
  rw [HW0.out]
  cases D
  · cases hE : E == 0
    all_goals
      rw [hE] at hU
      have HU := Lib.hid hU
      clear hU
      go_region_with (first
        | (go_at_call 109; refine (HD.out _).mono ?_; rintro e w1 ⟨rfl, hb1⟩; replace hb1 : Below (w.heap.size + 1) W0 w1 := hb0.trans (hb1.mono (by have := hb0.size; rw [HSZ.out] at this; exact this)))
        | (go_at_call 65; refine (HC.out _).mono ?_; rintro e w2 ⟨rfl, hb2⟩; replace hb2 : Below (w.heap.size + 1) W0 w2 := hb1.trans (hb2.mono (by have := hb1.size; rw [HSZ.out] at this; exact this))))
      all_goals
        go_wp2_with fail
        go_ret
        rw [HU.out]
        exact ⟨rfl, HB.out _ hb2⟩
  · have HU := Lib.hid hU
    clear hU
    go_region_with (first
      | (go_at_call 109; refine (HD.out _).mono ?_; rintro e w1 ⟨rfl, hb1⟩; replace hb1 : Below (w.heap.size + 1) W0 w1 := hb0.trans (hb1.mono (by have := hb0.size; rw [HSZ.out] at this; exact this))))
    all_goals
      go_wp2_with fail
      go_ret
      rw [HU.out]
      exact ⟨rfl, HB.out _ hb1⟩

end Go.Proofs.YtdgakmpopgpijaaGreatDoor
