/- The contract of region.Find: the region with a name. -/
import Derived.Test.YtdgakmpopgpijaaGreatDoorMem
set_option linter.unusedVariables false
namespace Go.Proofs.YtdgakmpopgpijaaGreatDoor
open Go.RowKit

/-- The region with a name, and whether there is one. -/
def findL (nm : ByteArray) : List Reg → Reg × Bool
  | [] => (zeroReg, false)
  | x :: l => if x.name.toList == nm.toList then (x, true) else findL nm l
def findR (xs : List Reg) (nm : ByteArray) : Reg × Bool := if nm.toList = [] then (defReg, true) else findL nm xs

theorem findL_drop_yes (nm : ByteArray) (xs : List Reg) (k : Nat) (x : Reg) (hx : xs[k]? = some x) (h : (x.name.toList == nm.toList) = true) : findL nm (xs.drop k) = (x, true) := by
  have hk : k < xs.length := (List.getElem?_eq_some_iff.1 hx).1
  have e : xs[k] = x := (List.getElem?_eq_some_iff.1 hx).2
  rw [List.drop_eq_getElem_cons hk, e, findL, if_pos h]
theorem findL_drop_no (nm : ByteArray) (xs : List Reg) (k : Nat) (x : Reg) (hx : xs[k]? = some x) (h : (x.name.toList == nm.toList) = false) : findL nm (xs.drop k) = findL nm (xs.drop (k + 1)) := by
  have hk : k < xs.length := (List.getElem?_eq_some_iff.1 hx).1
  have e : xs[k] = x := (List.getElem?_eq_some_iff.1 hx).2
  rw [List.drop_eq_getElem_cons hk, e, findL, if_neg (by simp [h])]

/-- A block that was laid stands, its cells not frozen. -/
theorem box_frozen (w : World) (cs : Array Value) (t : TypeId) (j : Nat) (w' : World) (hb : Below (w.heap.size + 1) (w.alloc (.cells cs t)) w') : w'.frozen? ⟨w.heap.size, j, none⟩ = false := by
  rw [hb.frozen (p := ⟨w.heap.size, j, none⟩) (by simp)]
  exact frozen_of_row _ _ j cs t (heap_alloc_last w _)

def FindPost (r : Reg × Bool) (w : World) (e : Ending) (w' : World) : Prop := e = .returned (.tuple #[.agg r.1.enc.toArray, .bool r.2]) ∧ Below w.heap.size w w'

/-- The result's block: seven cells of zero values, not frozen, in every later world. -/
structure ZeroBox (b : Nat) (w : World) : Prop where
  c0 : w.cell? ⟨b, 0, none⟩ = some (.string ⟨#[]⟩)
  c1 : w.cell? ⟨b, 1, none⟩ = some (.int .i64 0)
  c2 : w.cell? ⟨b, 2, none⟩ = some (.int .i64 0)
  c3 : w.cell? ⟨b, 3, none⟩ = some (.int .i64 0)
  c4 : w.cell? ⟨b, 4, none⟩ = some (.int .i64 0)
  c5 : w.cell? ⟨b, 5, none⟩ = some (.int .u8 0)
  c6 : w.cell? ⟨b, 6, none⟩ = some (.bool false)
  z0 : w.frozen? ⟨b, 0, none⟩ = false
  z1 : w.frozen? ⟨b, 1, none⟩ = false
  z2 : w.frozen? ⟨b, 2, none⟩ = false
  z3 : w.frozen? ⟨b, 3, none⟩ = false
  z4 : w.frozen? ⟨b, 4, none⟩ = false
  z5 : w.frozen? ⟨b, 5, none⟩ = false
  z6 : w.frozen? ⟨b, 6, none⟩ = false

def zeroCells : Array Value := #[.string ⟨#[]⟩, .int .i64 0, .int .i64 0, .int .i64 0, .int .i64 0, .int .u8 0, .bool false]

theorem ZeroBox.of (w w' : World) (hb : Below (w.heap.size + 1) (w.alloc (.cells zeroCells 101)) w') : ZeroBox w.heap.size w' :=
  ⟨box_cell w _ _ 0 _ rfl w' hb, box_cell w _ _ 1 _ rfl w' hb, box_cell w _ _ 2 _ rfl w' hb, box_cell w _ _ 3 _ rfl w' hb, box_cell w _ _ 4 _ rfl w' hb, box_cell w _ _ 5 _ rfl w' hb, box_cell w _ _ 6 _ rfl w' hb,
   box_frozen w _ _ 0 w' hb, box_frozen w _ _ 1 w' hb, box_frozen w _ _ 2 w' hb, box_frozen w _ _ 3 w' hb, box_frozen w _ _ 4 w' hb, box_frozen w _ _ 5 w' hb, box_frozen w _ _ 6 w' hb⟩

/-- Seven stores into the result's block. -/
theorem below_seven {w w' : World} {b : Nat} (hb : Below w.heap.size w w') (h : w.heap.size ≤ b) (v0 v1 v2 v3 v4 v5 v6 : Value) :
    Below w.heap.size w (((((((w'.setCell ⟨b, 0, none⟩ v0).setCell ⟨b, 1, none⟩ v1).setCell ⟨b, 2, none⟩ v2).setCell ⟨b, 3, none⟩ v3).setCell ⟨b, 4, none⟩ v4).setCell ⟨b, 5, none⟩ v5).setCell ⟨b, 6, none⟩ v6) :=
  ((((((hb.setCell h _).setCell h _).setCell h _).setCell h _).setCell h _).setCell h _).setCell h _

theorem below_seven_alloc {w w' : World} {b : Nat} (hb : Below w.heap.size w w') (h : w.heap.size ≤ b) (v0 v1 v2 v3 v4 v5 v6 : Value) (o : Obj) :
    Below w.heap.size w ((((((((w'.setCell ⟨b, 0, none⟩ v0).setCell ⟨b, 1, none⟩ v1).setCell ⟨b, 2, none⟩ v2).setCell ⟨b, 3, none⟩ v3).setCell ⟨b, 4, none⟩ v4).setCell ⟨b, 5, none⟩ v5).setCell ⟨b, 6, none⟩ v6).alloc o) :=
  (below_seven hb h v0 v1 v2 v3 v4 v5 v6).alloc (below_seven hb h v0 v1 v2 v3 v4 v5 v6).size o

set_option maxHeartbeats 800000 in
theorem find_none (a : Option Addr) (cap : Nat) (xs : List Reg) (nm : ByteArray) (w : World) (hm : nm.toList = []) :
    Calls Tryz.prog 66 #[.slice a xs.length cap, .string nm] w (FindPost (findR xs nm) w) := by
  have hF : findR xs nm = (defReg, true) := by rw [findR, if_pos hm]
  rw [hF]
  have HD := Lib.hid (fun w => default_calls w)
  clear hF
  go_enter Tryz.func66, Tryz.ntmps66
  go_wp2_with fail
  refine (HD.out _).mono ?_
  rintro e w1 ⟨rfl, hb1⟩
  rw [World.size_alloc] at hb1
  obtain ⟨c0, c1, c2, c3, c4, c5, c6, z0, z1, z2, z3, z4, z5, z6⟩ := ZeroBox.of w w1 hb1
  have HB := Lib.hid (box_below hb1)
  have hlt : w.heap.size < w1.heap.size := by have := hb1.size; rw [World.size_alloc] at this; omega
  clear hb1 HD
  simp only [defReg, Reg.enc]
  go_wp2_with fail
  exact bodyPost_ret (v := .tuple #[.agg #[.string ⟨#[]⟩, .int .i64 11, .int .i64 4, .int .i64 0, .int .i64 32, .int .u8 2, .bool true], .bool true]) (by simp [results, Tryz.results66, go_sem, *]) rfl ⟨rfl, below_seven HB.out (Nat.le_refl _) _ _ _ _ _ _ _⟩

theorem below_alloc1 {W0 wr : World} {B : Nat} (h : Below B W0 wr) (hB : B ≤ W0.heap.size) (o : Obj) : Below B W0 (wr.alloc o) := h.alloc (Nat.le_trans hB h.size) o

set_option maxHeartbeats 1600000 in
theorem find_some (a : Option Addr) (cap : Nat) (xs : List Reg) (nm : ByteArray) (w : World) (hR : Regs w a xs) (hm : ¬ nm.toList = []) (hl : xs.length ≤ 4000000) :
    Calls Tryz.prog 66 #[.slice a xs.length cap, .string nm] w (FindPost (findR xs nm) w) := by
  have hF : findR xs nm = findL nm xs := by rw [findR, if_neg hm]
  rw [hF]
  generalize hG : findL nm xs = G
  have H0 := Lib.hid (show findL nm (xs.drop 0) = G by rw [List.drop_zero]; exact hG)
  have hsz : (w.alloc (.cells zeroCells 101)).heap.size = w.heap.size + 1 := World.size_alloc _ _
  have hme : nm.toList.isEmpty = false := by simpa using hm
  clear hF hG
  go_enter Tryz.func66, Tryz.ntmps66
  go_wp2_with fail
  go_loopw [13] (fun i wr => ∃ k : Nat, k ≤ xs.length ∧ i = .int .i64 k ∧ findL nm (xs.drop k) = G ∧ Below (w.heap.size + 1) (w.alloc (.cells zeroCells 101)) wr) (fun i _ => xs.length - (intOf i).toNat)
  case atStart => exact ⟨0, by omega, rfl, H0.out, Below.refl _ _⟩
  case round =>
    obtain ⟨k, hk, rfl, hp, hb⟩ := hrel
    have hbw := box_below hb
    obtain ⟨c0, c1, c2, c3, c4, c5, c6, z0, z1, z2, z3, z4, z5, z6⟩ := ZeroBox.of w wr hb
    have hlt0 : w.heap.size < wr.heap.size := by have := hb.size; rw [hsz] at this; omega
    by_cases hlt : k < xs.length
    · obtain ⟨b, off, x, rfl, hbl, hx, hc, _⟩ := (hR.later hbw).at_ hlt
      cases he : x.name.toList == nm.toList
      · have hP := findL_drop_no nm xs k x hx he
        rw [hP] at hp
        obtain ⟨xn, xt, xh, xl, xw, xa, xb⟩ := x
        have d0 := hc 0 _ rfl; have d1 := hc 1 _ rfl; have d2 := hc 2 _ rfl; have d3 := hc 3 _ rfl; have d4 := hc 4 _ rfl; have d5 := hc 5 _ rfl; have d6 := hc 6 _ rfl
        simp only [Nat.add_zero] at he d0 d1 d2 d3 d4 d5 d6
        have HP := Lib.hid hp
        have HB := Lib.hid (fun o => below_alloc1 hb (by rw [hsz]; omega) o)
        clear hp hP hc hx H0 c0 c1 c2 c3 c4 c5 c6 z0 z1 z2 z3 z4 z5 z6 hsz hR hb hbw
        go_wp2_with fail
        go_roundw
        case rel => exact ⟨k + 1, by omega, by go_num, HP.out, HB.out _⟩
        case measure => simp [intOf]; omega
      · have hP := findL_drop_yes nm xs k x hx he
        rw [hP] at hp
        obtain ⟨xn, xt, xh, xl, xw, xa, xb⟩ := x
        have d0 := hc 0 _ rfl; have d1 := hc 1 _ rfl; have d2 := hc 2 _ rfl; have d3 := hc 3 _ rfl; have d4 := hc 4 _ rfl; have d5 := hc 5 _ rfl; have d6 := hc 6 _ rfl
        simp only [Nat.add_zero] at he d0 d1 d2 d3 d4 d5 d6
        have HP := Lib.hid hp
        have HB := Lib.hid hbw
        clear hp hP hc hx H0 hsz hR hb hbw
        go_wp2_with fail
        exact bodyPost_ret (v := .tuple #[.agg #[.string xn, .int .i64 xt, .int .i64 xh, .int .i64 xl, .int .i64 xw, .int .u8 xa, .bool xb], .bool true]) (by simp [results, Tryz.results66, go_sem, *]) rfl
          ⟨by rw [← HP.out]; rfl, below_seven_alloc HB.out (Nat.le_refl _) _ _ _ _ _ _ _ _⟩
    · obtain rfl : k = xs.length := by omega
      rw [List.drop_length] at hp
      have HP := Lib.hid hp
      have HB := Lib.hid hbw
      clear hp H0 hsz hR hb hbw
      go_wp2_with fail
      exact bodyPost_ret (v := .tuple #[.agg #[.string ⟨#[]⟩, .int .i64 0, .int .i64 0, .int .i64 0, .int .i64 0, .int .u8 0, .bool false], .bool false]) (by simp [results, Tryz.results66, go_sem, *]) rfl
        ⟨by rw [← HP.out]; rfl, below_seven HB.out (Nat.le_refl _) _ _ _ _ _ _ _⟩

theorem find_calls (a : Option Addr) (cap : Nat) (xs : List Reg) (nm : ByteArray) (w : World) (hR : Regs w a xs) (hl : xs.length ≤ 4000000) :
    Calls Tryz.prog 66 #[.slice a xs.length cap, .string nm] w (FindPost (findR xs nm) w) := by
  by_cases hm : nm.toList = []
  · exact find_none a cap xs nm w hm
  · exact find_some a cap xs nm w hR hm hl

end Go.Proofs.YtdgakmpopgpijaaGreatDoor
