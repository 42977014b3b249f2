/- diff.find at regions, events and comments: the first element with a key. (printed by gen_find.py) The contracts of document.Head and of event.Same. The contracts of style.Clone and event.Clone. Changes: their cells, what lies behind them, and the changes that lead from one document to another. -/
import Derived.Test.YtnlnmbcaongehaaGreatDoorBase05
import Derived.Test.YtnlnmbcaongehaaGreatDoorBase01
import Derived.Test.YtnlnmbcaongehaaGreatDoorBase03
import Derived.Test.YtnlnmbcaongehaaGreatDoorBase04
set_option linter.unusedVariables false
set_option linter.unusedSimpArgs false
namespace Go.Proofs.YtnlnmbcaongehaaGreatDoor
open Go.RowKit
/-- The first element with a property, and its index. -/
def firstFrom {α : Type} (p : α → Bool) : List α → Nat → Option (α × Nat)
  | [], _ => none
  | x :: l, i => if p x = true then some (x, i) else firstFrom p l (i + 1)
theorem firstFrom_at {α : Type} (p : α → Bool) (xs : List α) (k : Nat) (x : α) (h : xs[k]? = some x) : firstFrom p (xs.drop k) k = if p x = true then some (x, k) else firstFrom p (xs.drop (k + 1)) (k + 1) := by
  rw [drop_at xs k x h, firstFrom]
theorem firstFrom_get {α : Type} (p : α → Bool) : ∀ (xs : List α) (i : Nat) (x : α) (k : Nat), firstFrom p xs i = some (x, k) → i ≤ k ∧ xs[k - i]? = some x ∧ p x = true
  | [], i, x, k, h => by simp [firstFrom] at h
  | y :: l, i, x, k, h => by
    unfold firstFrom at h
    split at h
    · rename_i hp
      simp only [Option.some.injEq, Prod.mk.injEq] at h
      obtain ⟨rfl, rfl⟩ := h
      exact ⟨Nat.le_refl _, by simp, hp⟩
    · obtain ⟨h1, h2, h3⟩ := firstFrom_get p l (i + 1) x k h
      refine ⟨by omega, ?_, h3⟩
      rw [show k - i = (k - (i + 1)) + 1 by omega]
      simpa using h2
theorem firstFrom_find {α : Type} (p : α → Bool) : ∀ (xs : List α) (i : Nat), (firstFrom p xs i).map (·.1) = xs.find? p
  | [], i => rfl
  | y :: l, i => by
    unfold firstFrom
    rw [List.find?_cons]
    cases hp : p y
    · simp only [Bool.false_eq_true, if_false]; exact firstFrom_find p l (i + 1)
    · simp
def first {α : Type} (p : α → Bool) (xs : List α) : Option (α × Nat) := firstFrom p xs 0
def zeroEv : Ev := ⟨0, 0, 0, ⟨#[]⟩, 0, ⟨#[]⟩, none, 0, []⟩
def zeroCm : Cm := ⟨0, 0, 0, 0, ⟨#[]⟩, ⟨#[]⟩, false, false⟩
def findVal36 : Option (Reg × Nat) → Value
  | some (x, i) => .tuple #[.agg x.enc.toArray, .int .i64 i, .bool true]
  | none => .tuple #[.agg zeroReg.enc.toArray, .int .i64 (-1), .bool false]
def FindPost36 (r : Option (Reg × Nat)) (w : World) (e : Ending) (w' : World) : Prop := e = .returned (findVal36 r) ∧ Below w.heap.size w w'
set_option maxRecDepth 100000 in
set_option maxHeartbeats 3200000 in
theorem find36_calls {Ok : World → Reg → Prop} (hK : Keeps Ok) (a : Option Addr) (cap : Nat) (xs : List Reg) (nk : ByteArray) (w : World) (h : SliceOf 7 Reg.enc Ok w a xs) (hl : xs.length ≤ 8000000) :
    Calls Tryz.prog 36 #[.slice a xs.length cap, .func (.func 35) #[] #[], .string nk] w (FindPost36 (first (fun x : Reg => x.name.toList == nk.toList) xs) w) := by
  generalize hG : first (fun x : Reg => x.name.toList == nk.toList) xs = G
  have H0 := Lib.hid (show firstFrom (fun x : Reg => x.name.toList == nk.toList) (xs.drop 0) 0 = G from hG)
  have HSL := Lib.hid (fun (w' : World) (hb : Below w.heap.size w w') => SliceOf.keeps hK _ _ _ _ hb h)
  have HQ := Lib.hid (fun (w' : World) (v : Value) (h : findVal36 G = v) (hb : Below w.heap.size w w') => (show FindPost36 G w (.returned v) w' from ⟨by rw [h], hb⟩))
  have HFR := Lib.hid (fun (p : Reg → Bool) (k : Nat) (x : Reg) (hx : xs[k]? = some x) => firstFrom_at p xs k x hx)
  generalize FindPost36 G w = Q at *
  obtain ⟨zc, hzc⟩ : ∃ zc : Array Value, zc = #[.string ⟨#[]⟩, .int .i64 0, .int .i64 0, .int .i64 0, .int .i64 0, .int .u8 0, .bool false] := ⟨_, rfl⟩
  have HB0 := Lib.hid (fun (w1 : World) (hb : Below (w.heap.size + 1) (w.alloc (.cells zc 44)) w1) => (show Below w.heap.size w w1 from box_below hb))
  have HZ := Lib.hid (fun (w1 : World) (hb : Below (w.heap.size + 1) (w.alloc (.cells zc 44)) w1) => (show w1.heap[w.heap.size]? = some (.cells zc 44 (0, 0)) by
    rw [hb.block _ (by omega)]
    exact heap_alloc_last w _))
  have hb00 : Below (w.heap.size + 1) (w.alloc (.cells zc 44)) (w.alloc (.cells zc 44)) := Below.refl _ _
  have hsz : (w.alloc (.cells zc 44)).heap.size = w.heap.size + 1 := World.size_alloc _ _
  rw [hzc] at HB0 hb00 hsz HZ
  generalize hW0 : w.alloc (.cells #[.string ⟨#[]⟩, .int .i64 0, .int .i64 0, .int .i64 0, .int .i64 0, .int .u8 0, .bool false] 44) = W0 at *
  have HW0 := Lib.hid hW0
  have HSZ := Lib.hid hsz
  clear hW0 hsz hG h hzc zc
  go_enter Tryz.func36, Tryz.ntmps36
  go_wp2_with fail
  rw [HW0.out]
  go_loopw [14] (fun i wr => ∃ k : Nat, k ≤ xs.length ∧ i = .int .i64 k ∧ firstFrom (fun x : Reg => x.name.toList == nk.toList) (xs.drop k) k = G ∧ Below (w.heap.size + 1) W0 wr) (fun i _ => xs.length - (intOf i).toNat)
  case atStart => exact ⟨0, by omega, rfl, H0.out, hb00⟩
  case round =>
    obtain ⟨k, hk, rfl, hp, hb⟩ := hrel
    have hbs : w.heap.size + 1 ≤ wr.heap.size := by have := hb.size; rw [HSZ.out] at this; exact this
    by_cases hlt : k < xs.length
    · obtain ⟨b, off, x, rfl, hbl, hxk, hc, _⟩ := (HSL.out _ (HB0.out _ hb)).at_ hlt
      rw [HFR.out (fun x : Reg => x.name.toList == nk.toList) k x hxk] at hp
      have HKC := Lib.hid (fun o => key35_calls x (wr.alloc o))
      have HBA := Lib.hid (fun (o : Array Value) (w2 : World) (h1 : Below (wr.alloc (.cells o 44)).heap.size (wr.alloc (.cells o 44)) w2) => (show Below (w.heap.size + 1) W0 w2 ∧ w2.heap[wr.heap.size]? = some (.cells o 44 (0, 0)) from
        ⟨(hb.alloc hbs _).trans (h1.mono (by simp; omega)), by rw [h1.block _ (by simp)]; exact heap_alloc_last wr _⟩))
      have d0 := hc 0 _ rfl; have d1 := hc 1 _ rfl; have d2 := hc 2 _ rfl; have d3 := hc 3 _ rfl; have d4 := hc 4 _ rfl; have d5 := hc 5 _ rfl; have d6 := hc 6 _ rfl
      obtain ⟨nm, top, height, left, width, align, bottom⟩ := x
      simp only [Reg.enc, Nat.add_zero] at HKC d0 d1 d2 d3 d4 d5 d6 hp
      clear hc hxk
      cases hkq : (nm.toList == nk.toList)
      · rw [if_neg (by rw [hkq]; decide)] at hp
        have HP := Lib.hid hp
        clear hp H0
        go_wp2_with fail
        refine (HKC.out _).mono ?_
        rintro e w1 ⟨rfl, hb1⟩
        have HB1 := Lib.hid (HBA.out _ _ hb1).1
        clear hb1 HKC HBA d0 d1 d2 d3 d4 d5 d6
        go_wp2_with fail
        go_roundw
        case rel => exact ⟨k + 1, by omega, by go_num, HP.out, HB1.out⟩
        case measure => simp [intOf]; omega
      · rw [if_pos hkq] at hp
        have HP := Lib.hid hp
        clear hp H0
        go_wp2_with fail
        refine (HKC.out _).mono ?_
        rintro e w1 ⟨rfl, hb1⟩
        obtain ⟨hb2, hx2⟩ := HBA.out _ _ hb1
        have hz2 := HZ.out _ hb2
        have HB1 := Lib.hid hb2
        clear hb1 hb2 HKC HBA d0 d1 d2 d3 d4 d5 d6
        have c1 : ∀ j, w1.cell? ⟨wr.heap.size, j, none⟩ = _ := fun j => cell_of_row _ _ j _ 44 (0, 0) hx2
        have c2 : ∀ j, w1.cell? ⟨w.heap.size, j, none⟩ = _ := fun j => cell_of_row _ _ j _ 44 (0, 0) hz2
        have z2 : ∀ j, w1.frozen? ⟨w.heap.size, j, none⟩ = false := fun j => by simp [World.frozen?, hz2]
        clear hx2 hz2
        go_wp2_with fail
        refine bodyPost_ret (v := .tuple #[.agg #[.string nm, .int .i64 top, .int .i64 height, .int .i64 left, .int .i64 width, .int .u8 align, .bool bottom], .int .i64 k, .bool true]) (by simp [results, Tryz.results36, go_sem, c2]) rfl ?_
        refine HQ.out _ _ (by rw [← HP.out]; rfl) ?_
        repeat refine Below.setCell ?_ (by simp only; omega) _
        exact HB0.out _ HB1.out
    · obtain rfl : k = xs.length := by omega
      rw [List.drop_length, firstFrom] at hp
      have HP := Lib.hid hp
      have hz2 := HZ.out _ hb
      have HB1 := Lib.hid hb
      have hz3 : ∀ o : Obj, (wr.alloc o).heap[w.heap.size]? = some (.cells #[.string ⟨#[]⟩, .int .i64 0, .int .i64 0, .int .i64 0, .int .i64 0, .int .u8 0, .bool false] 44 (0, 0)) := fun o => (Below.heap_alloc wr o _ (by omega)).trans hz2
      have c2 : ∀ (o : Obj) (j : Nat), (wr.alloc o).cell? ⟨w.heap.size, j, none⟩ = _ := fun o j => cell_of_row _ _ j _ 44 (0, 0) (hz3 o)
      have z2 : ∀ (o : Obj) (j : Nat), (wr.alloc o).frozen? ⟨w.heap.size, j, none⟩ = false := fun o j => by simp [World.frozen?, hz3 o]
      clear hp hz2 hz3 H0 hb
      go_wp2_with fail
      refine bodyPost_ret (v := .tuple #[.agg #[.string ⟨#[]⟩, .int .i64 0, .int .i64 0, .int .i64 0, .int .i64 0, .int .u8 0, .bool false], .int .i64 (-1), .bool false]) (by simp [results, Tryz.results36, go_sem, c2]) rfl ?_
      refine HQ.out _ _ (by rw [← HP.out]; rfl) ?_
      repeat refine Below.setCell ?_ (by simp only; omega) _
      exact HB0.out _ (HB1.out.alloc hbs _)
def findVal39 : Option (Ev × Nat) → Value
  | some (x, i) => .tuple #[.agg x.enc.toArray, .int .i64 i, .bool true]
  | none => .tuple #[.agg zeroEv.enc.toArray, .int .i64 (-1), .bool false]
def FindPost39 (r : Option (Ev × Nat)) (w : World) (e : Ending) (w' : World) : Prop := e = .returned (findVal39 r) ∧ Below w.heap.size w w'
set_option maxRecDepth 100000 in
set_option maxHeartbeats 3200000 in
theorem find39_calls {Ok : World → Ev → Prop} (hK : Keeps Ok) (a : Option Addr) (cap : Nat) (xs : List Ev) (nk : Int) (w : World) (h : SliceOf 7 Ev.enc Ok w a xs) (hl : xs.length ≤ 8000000) :
    Calls Tryz.prog 39 #[.slice a xs.length cap, .func (.func 38) #[] #[], .int .i64 nk] w (FindPost39 (first (fun x : Ev => x.id == nk) xs) w) := by
  generalize hG : first (fun x : Ev => x.id == nk) xs = G
  have H0 := Lib.hid (show firstFrom (fun x : Ev => x.id == nk) (xs.drop 0) 0 = G from hG)
  have HSL := Lib.hid (fun (w' : World) (hb : Below w.heap.size w w') => SliceOf.keeps hK _ _ _ _ hb h)
  have HQ := Lib.hid (fun (w' : World) (v : Value) (h : findVal39 G = v) (hb : Below w.heap.size w w') => (show FindPost39 G w (.returned v) w' from ⟨by rw [h], hb⟩))
  have HFR := Lib.hid (fun (p : Ev → Bool) (k : Nat) (x : Ev) (hx : xs[k]? = some x) => firstFrom_at p xs k x hx)
  generalize FindPost39 G w = Q at *
  obtain ⟨zc, hzc⟩ : ∃ zc : Array Value, zc = #[.int .i64 0, .int .i64 0, .int .i64 0, .string ⟨#[]⟩, .int .u8 0, .string ⟨#[]⟩, .slice none 0 0] := ⟨_, rfl⟩
  have HB0 := Lib.hid (fun (w1 : World) (hb : Below (w.heap.size + 1) (w.alloc (.cells zc 50)) w1) => (show Below w.heap.size w w1 from box_below hb))
  have HZ := Lib.hid (fun (w1 : World) (hb : Below (w.heap.size + 1) (w.alloc (.cells zc 50)) w1) => (show w1.heap[w.heap.size]? = some (.cells zc 50 (0, 0)) by
    rw [hb.block _ (by omega)]
    exact heap_alloc_last w _))
  have hb00 : Below (w.heap.size + 1) (w.alloc (.cells zc 50)) (w.alloc (.cells zc 50)) := Below.refl _ _
  have hsz : (w.alloc (.cells zc 50)).heap.size = w.heap.size + 1 := World.size_alloc _ _
  rw [hzc] at HB0 hb00 hsz HZ
  generalize hW0 : w.alloc (.cells #[.int .i64 0, .int .i64 0, .int .i64 0, .string ⟨#[]⟩, .int .u8 0, .string ⟨#[]⟩, .slice none 0 0] 50) = W0 at *
  have HW0 := Lib.hid hW0
  have HSZ := Lib.hid hsz
  clear hW0 hsz hG h hzc zc
  go_enter Tryz.func39, Tryz.ntmps39
  go_wp2_with fail
  rw [HW0.out]
  go_loopw [14] (fun i wr => ∃ k : Nat, k ≤ xs.length ∧ i = .int .i64 k ∧ firstFrom (fun x : Ev => x.id == nk) (xs.drop k) k = G ∧ Below (w.heap.size + 1) W0 wr) (fun i _ => xs.length - (intOf i).toNat)
  case atStart => exact ⟨0, by omega, rfl, H0.out, hb00⟩
  case round =>
    obtain ⟨k, hk, rfl, hp, hb⟩ := hrel
    have hbs : w.heap.size + 1 ≤ wr.heap.size := by have := hb.size; rw [HSZ.out] at this; exact this
    by_cases hlt : k < xs.length
    · obtain ⟨b, off, x, rfl, hbl, hxk, hc, _⟩ := (HSL.out _ (HB0.out _ hb)).at_ hlt
      rw [HFR.out (fun x : Ev => x.id == nk) k x hxk] at hp
      have HKC := Lib.hid (fun o => key38_calls x (wr.alloc o))
      have HBA := Lib.hid (fun (o : Array Value) (w2 : World) (h1 : Below (wr.alloc (.cells o 50)).heap.size (wr.alloc (.cells o 50)) w2) => (show Below (w.heap.size + 1) W0 w2 ∧ w2.heap[wr.heap.size]? = some (.cells o 50 (0, 0)) from
        ⟨(hb.alloc hbs _).trans (h1.mono (by simp; omega)), by rw [h1.block _ (by simp)]; exact heap_alloc_last wr _⟩))
      have d0 := hc 0 _ rfl; have d1 := hc 1 _ rfl; have d2 := hc 2 _ rfl; have d3 := hc 3 _ rfl; have d4 := hc 4 _ rfl; have d5 := hc 5 _ rfl; have d6 := hc 6 _ rfl
      obtain ⟨id, inn, out, reg, kind, sp, xa, xc, xr⟩ := x
      simp only [Ev.enc, Nat.add_zero] at HKC d0 d1 d2 d3 d4 d5 d6 hp
      clear hc hxk
      cases hkq : (id == nk)
      · rw [if_neg (by rw [hkq]; decide)] at hp
        have HP := Lib.hid hp
        clear hp H0
        go_wp2_with fail
        refine (HKC.out _).mono ?_
        rintro e w1 ⟨rfl, hb1⟩
        have HB1 := Lib.hid (HBA.out _ _ hb1).1
        clear hb1 HKC HBA d0 d1 d2 d3 d4 d5 d6
        go_wp2_with fail
        go_roundw
        case rel => exact ⟨k + 1, by omega, by go_num, HP.out, HB1.out⟩
        case measure => simp [intOf]; omega
      · rw [if_pos hkq] at hp
        have HP := Lib.hid hp
        clear hp H0
        go_wp2_with fail
        refine (HKC.out _).mono ?_
        rintro e w1 ⟨rfl, hb1⟩
        obtain ⟨hb2, hx2⟩ := HBA.out _ _ hb1
        have hz2 := HZ.out _ hb2
        have HB1 := Lib.hid hb2
        clear hb1 hb2 HKC HBA d0 d1 d2 d3 d4 d5 d6
        have c1 : ∀ j, w1.cell? ⟨wr.heap.size, j, none⟩ = _ := fun j => cell_of_row _ _ j _ 50 (0, 0) hx2
        have c2 : ∀ j, w1.cell? ⟨w.heap.size, j, none⟩ = _ := fun j => cell_of_row _ _ j _ 50 (0, 0) hz2
        have z2 : ∀ j, w1.frozen? ⟨w.heap.size, j, none⟩ = false := fun j => by simp [World.frozen?, hz2]
        clear hx2 hz2
        go_wp2_with fail
        refine bodyPost_ret (v := .tuple #[.agg #[.int .i64 id, .int .i64 inn, .int .i64 out, .string reg, .int .u8 kind, .string sp, .slice xa xr.length xc], .int .i64 k, .bool true]) (by simp [results, Tryz.results39, go_sem, c2]) rfl ?_
        refine HQ.out _ _ (by rw [← HP.out]; rfl) ?_
        repeat refine Below.setCell ?_ (by simp only; omega) _
        exact HB0.out _ HB1.out
    · obtain rfl : k = xs.length := by omega
      rw [List.drop_length, firstFrom] at hp
      have HP := Lib.hid hp
      have hz2 := HZ.out _ hb
      have HB1 := Lib.hid hb
      have hz3 : ∀ o : Obj, (wr.alloc o).heap[w.heap.size]? = some (.cells #[.int .i64 0, .int .i64 0, .int .i64 0, .string ⟨#[]⟩, .int .u8 0, .string ⟨#[]⟩, .slice none 0 0] 50 (0, 0)) := fun o => (Below.heap_alloc wr o _ (by omega)).trans hz2
      have c2 : ∀ (o : Obj) (j : Nat), (wr.alloc o).cell? ⟨w.heap.size, j, none⟩ = _ := fun o j => cell_of_row _ _ j _ 50 (0, 0) (hz3 o)
      have z2 : ∀ (o : Obj) (j : Nat), (wr.alloc o).frozen? ⟨w.heap.size, j, none⟩ = false := fun o j => by simp [World.frozen?, hz3 o]
      clear hp hz2 hz3 H0 hb
      go_wp2_with fail
      refine bodyPost_ret (v := .tuple #[.agg #[.int .i64 0, .int .i64 0, .int .i64 0, .string ⟨#[]⟩, .int .u8 0, .string ⟨#[]⟩, .slice none 0 0], .int .i64 (-1), .bool false]) (by simp [results, Tryz.results39, go_sem, c2]) rfl ?_
      refine HQ.out _ _ (by rw [← HP.out]; rfl) ?_
      repeat refine Below.setCell ?_ (by simp only; omega) _
      exact HB0.out _ (HB1.out.alloc hbs _)
def findVal43 : Option (Cm × Nat) → Value
  | some (x, i) => .tuple #[.agg x.enc.toArray, .int .i64 i, .bool true]
  | none => .tuple #[.agg zeroCm.enc.toArray, .int .i64 (-1), .bool false]
def FindPost43 (r : Option (Cm × Nat)) (w : World) (e : Ending) (w' : World) : Prop := e = .returned (findVal43 r) ∧ Below w.heap.size w w'
set_option maxRecDepth 100000 in
set_option maxHeartbeats 3200000 in
theorem find43_calls {Ok : World → Cm → Prop} (hK : Keeps Ok) (a : Option Addr) (cap : Nat) (xs : List Cm) (nk : Int) (w : World) (h : SliceOf 8 Cm.enc Ok w a xs) (hl : xs.length ≤ 8000000) :
    Calls Tryz.prog 43 #[.slice a xs.length cap, .func (.func 42) #[] #[], .int .i64 nk] w (FindPost43 (first (fun x : Cm => x.id == nk) xs) w) := by
  generalize hG : first (fun x : Cm => x.id == nk) xs = G
  have H0 := Lib.hid (show firstFrom (fun x : Cm => x.id == nk) (xs.drop 0) 0 = G from hG)
  have HSL := Lib.hid (fun (w' : World) (hb : Below w.heap.size w w') => SliceOf.keeps hK _ _ _ _ hb h)
  have HQ := Lib.hid (fun (w' : World) (v : Value) (h : findVal43 G = v) (hb : Below w.heap.size w w') => (show FindPost43 G w (.returned v) w' from ⟨by rw [h], hb⟩))
  have HFR := Lib.hid (fun (p : Cm → Bool) (k : Nat) (x : Cm) (hx : xs[k]? = some x) => firstFrom_at p xs k x hx)
  generalize FindPost43 G w = Q at *
  obtain ⟨zc, hzc⟩ : ∃ zc : Array Value, zc = #[.int .i64 0, .int .i64 0, .int .i64 0, .int .i64 0, .string ⟨#[]⟩, .string ⟨#[]⟩, .bool false, .bool false] := ⟨_, rfl⟩
  have HB0 := Lib.hid (fun (w1 : World) (hb : Below (w.heap.size + 1) (w.alloc (.cells zc 52)) w1) => (show Below w.heap.size w w1 from box_below hb))
  have HZ := Lib.hid (fun (w1 : World) (hb : Below (w.heap.size + 1) (w.alloc (.cells zc 52)) w1) => (show w1.heap[w.heap.size]? = some (.cells zc 52 (0, 0)) by
    rw [hb.block _ (by omega)]
    exact heap_alloc_last w _))
  have hb00 : Below (w.heap.size + 1) (w.alloc (.cells zc 52)) (w.alloc (.cells zc 52)) := Below.refl _ _
  have hsz : (w.alloc (.cells zc 52)).heap.size = w.heap.size + 1 := World.size_alloc _ _
  rw [hzc] at HB0 hb00 hsz HZ
  generalize hW0 : w.alloc (.cells #[.int .i64 0, .int .i64 0, .int .i64 0, .int .i64 0, .string ⟨#[]⟩, .string ⟨#[]⟩, .bool false, .bool false] 52) = W0 at *
  have HW0 := Lib.hid hW0
  have HSZ := Lib.hid hsz
  clear hW0 hsz hG h hzc zc
  go_enter Tryz.func43, Tryz.ntmps43
  go_wp2_with fail
  rw [HW0.out]
  go_loopw [14] (fun i wr => ∃ k : Nat, k ≤ xs.length ∧ i = .int .i64 k ∧ firstFrom (fun x : Cm => x.id == nk) (xs.drop k) k = G ∧ Below (w.heap.size + 1) W0 wr) (fun i _ => xs.length - (intOf i).toNat)
  case atStart => exact ⟨0, by omega, rfl, H0.out, hb00⟩
  case round =>
    obtain ⟨k, hk, rfl, hp, hb⟩ := hrel
    have hbs : w.heap.size + 1 ≤ wr.heap.size := by have := hb.size; rw [HSZ.out] at this; exact this
    by_cases hlt : k < xs.length
    · obtain ⟨b, off, x, rfl, hbl, hxk, hc, _⟩ := (HSL.out _ (HB0.out _ hb)).at_ hlt
      rw [HFR.out (fun x : Cm => x.id == nk) k x hxk] at hp
      have HKC := Lib.hid (fun o => key42_calls x (wr.alloc o))
      have HBA := Lib.hid (fun (o : Array Value) (w2 : World) (h1 : Below (wr.alloc (.cells o 52)).heap.size (wr.alloc (.cells o 52)) w2) => (show Below (w.heap.size + 1) W0 w2 ∧ w2.heap[wr.heap.size]? = some (.cells o 52 (0, 0)) from
        ⟨(hb.alloc hbs _).trans (h1.mono (by simp; omega)), by rw [h1.block _ (by simp)]; exact heap_alloc_last wr _⟩))
      have d0 := hc 0 _ rfl; have d1 := hc 1 _ rfl; have d2 := hc 2 _ rfl; have d3 := hc 3 _ rfl; have d4 := hc 4 _ rfl; have d5 := hc 5 _ rfl; have d6 := hc 6 _ rfl; have d7 := hc 7 _ rfl
      obtain ⟨id, ev, frm, til, au, tx, dn, lo⟩ := x
      simp only [Cm.enc, Nat.add_zero] at HKC d0 d1 d2 d3 d4 d5 d6 d7 hp
      clear hc hxk
      cases hkq : (id == nk)
      · rw [if_neg (by rw [hkq]; decide)] at hp
        have HP := Lib.hid hp
        clear hp H0
        go_wp2_with fail
        refine (HKC.out _).mono ?_
        rintro e w1 ⟨rfl, hb1⟩
        have HB1 := Lib.hid (HBA.out _ _ hb1).1
        clear hb1 HKC HBA d0 d1 d2 d3 d4 d5 d6 d7
        go_wp2_with fail
        go_roundw
        case rel => exact ⟨k + 1, by omega, by go_num, HP.out, HB1.out⟩
        case measure => simp [intOf]; omega
      · rw [if_pos hkq] at hp
        have HP := Lib.hid hp
        clear hp H0
        go_wp2_with fail
        refine (HKC.out _).mono ?_
        rintro e w1 ⟨rfl, hb1⟩
        obtain ⟨hb2, hx2⟩ := HBA.out _ _ hb1
        have hz2 := HZ.out _ hb2
        have HB1 := Lib.hid hb2
        clear hb1 hb2 HKC HBA d0 d1 d2 d3 d4 d5 d6 d7
        have c1 : ∀ j, w1.cell? ⟨wr.heap.size, j, none⟩ = _ := fun j => cell_of_row _ _ j _ 52 (0, 0) hx2
        have c2 : ∀ j, w1.cell? ⟨w.heap.size, j, none⟩ = _ := fun j => cell_of_row _ _ j _ 52 (0, 0) hz2
        have z2 : ∀ j, w1.frozen? ⟨w.heap.size, j, none⟩ = false := fun j => by simp [World.frozen?, hz2]
        clear hx2 hz2
        go_wp2_with fail
        refine bodyPost_ret (v := .tuple #[.agg #[.int .i64 id, .int .i64 ev, .int .i64 frm, .int .i64 til, .string au, .string tx, .bool dn, .bool lo], .int .i64 k, .bool true]) (by simp [results, Tryz.results43, go_sem, c2]) rfl ?_
        refine HQ.out _ _ (by rw [← HP.out]; rfl) ?_
        repeat refine Below.setCell ?_ (by simp only; omega) _
        exact HB0.out _ HB1.out
    · obtain rfl : k = xs.length := by omega
      rw [List.drop_length, firstFrom] at hp
      have HP := Lib.hid hp
      have hz2 := HZ.out _ hb
      have HB1 := Lib.hid hb
      have hz3 : ∀ o : Obj, (wr.alloc o).heap[w.heap.size]? = some (.cells #[.int .i64 0, .int .i64 0, .int .i64 0, .int .i64 0, .string ⟨#[]⟩, .string ⟨#[]⟩, .bool false, .bool false] 52 (0, 0)) := fun o => (Below.heap_alloc wr o _ (by omega)).trans hz2
      have c2 : ∀ (o : Obj) (j : Nat), (wr.alloc o).cell? ⟨w.heap.size, j, none⟩ = _ := fun o j => cell_of_row _ _ j _ 52 (0, 0) (hz3 o)
      have z2 : ∀ (o : Obj) (j : Nat), (wr.alloc o).frozen? ⟨w.heap.size, j, none⟩ = false := fun o j => by simp [World.frozen?, hz3 o]
      clear hp hz2 hz3 H0 hb
      go_wp2_with fail
      refine bodyPost_ret (v := .tuple #[.agg #[.int .i64 0, .int .i64 0, .int .i64 0, .int .i64 0, .string ⟨#[]⟩, .string ⟨#[]⟩, .bool false, .bool false], .int .i64 (-1), .bool false]) (by simp [results, Tryz.results43, go_sem, c2]) rfl ?_
      refine HQ.out _ _ (by rw [← HP.out]; rfl) ?_
      repeat refine Below.setCell ?_ (by simp only; omega) _
      exact HB0.out _ (HB1.out.alloc hbs _)
end Go.Proofs.YtnlnmbcaongehaaGreatDoor
namespace Go.Proofs.YtnlnmbcaongehaaGreatDoor
open Go.RowKit
/-- The header of a document. -/
structure Hd where
  title : ByteArray
  lang : ByteArray
  rate : Int
  drop : Bool
  last : Int
def Hd.enc (h : Hd) : List Value := [.string h.title, .string h.lang, .int .u8 h.rate, .bool h.drop, .int .i64 h.last]
def Doc.hd (d : Doc) : Hd := ⟨d.title, d.lang, d.rate, d.drop, d.last⟩
def hdEq (a b : Hd) : Bool := a.title.toList == b.title.toList && a.lang.toList == b.lang.toList && a.rate == b.rate && a.drop == b.drop && a.last == b.last
theorem run_hdEq (a b : Hd) (w : World) : (binOp .eql 41 (.agg a.enc.toArray) (.agg b.enc.toArray)).run Tryz.prog w = .ok (.bool (hdEq a b)) w := by
  simp [go_sem, Hd.enc, hdEq]
  repeat' split
  all_goals simp_all
theorem run_hdNe (a b : Hd) (w : World) : (binOp .neq 41 (.agg a.enc.toArray) (.agg b.enc.toArray)).run Tryz.prog w = .ok (.bool (!hdEq a b)) w := by
  simp [go_sem, Hd.enc, hdEq]
  repeat' split
  all_goals simp_all
theorem head_calls (d : Doc) (w : World) : Calls Tryz.prog 33 #[.agg d.enc.toArray] w fun e w' => e = .returned (.agg d.hd.enc.toArray) ∧ Below w.heap.size w w' := by
  obtain ⟨title, lang, rate, drop, last, ra, rc, regs, ea, ec, evs, ca, cc, cms⟩ := d
  simp only [Doc.enc, Doc.hd, Hd.enc]
  generalize hQ : (fun (e : Ending) (w' : World) => e = .returned (.agg [Value.string title, .string lang, .int .u8 rate, .bool drop, .int .i64 last].toArray) ∧ Below w.heap.size w w') = Q
  have HQ := Lib.hid (fun w' (hb : Below w.heap.size w w') => show Q (.returned (.agg #[Value.string title, .string lang, .int .u8 rate, .bool drop, .int .i64 last])) w' from hQ ▸ ⟨rfl, hb⟩)
  clear hQ
  go_enter Tryz.func33, Tryz.ntmps33
  go_wp2_with fail
  refine bodyPost_ret (v := .agg #[Value.string title, .string lang, .int .u8 rate, .bool drop, .int .i64 last]) (by simp [results, Tryz.results33, go_sem]) rfl (HQ.out _ ?_)
  exact (((Below.refl _ _).alloc (Nat.le_refl _) _).alloc (by simp) _)
/-- Whether two events are equal. -/
def evEq (x y : Ev) : Bool := x.id == y.id && (x.inn == y.inn && x.out == y.out) && x.region.toList == y.region.toList && x.kind == y.kind && x.speaker.toList == y.speaker.toList && rowsEq x.rows y.rows
theorem run_spanEq (a b c d : Int) (w : World) : (binOp .eql 46 (.agg #[.int .i64 a, .int .i64 b]) (.agg #[.int .i64 c, .int .i64 d])).run Tryz.prog w = .ok (.bool (a == c && b == d)) w := by
  simp [go_sem]
  repeat' split
  all_goals simp_all
set_option maxRecDepth 100000 in
set_option maxHeartbeats 3200000 in
theorem evSame_calls (x y : Ev) (w : World) (h : x.lies w) (h' : y.lies w) (hf : ∀ r ∈ x.rows, r.runs.length ≤ 4000000) (hf' : ∀ r ∈ y.rows, r.runs.length ≤ 4000000) (hl : x.rows.length ≤ 4000000) :
    Calls Tryz.prog 28 #[.agg x.enc.toArray, .agg y.enc.toArray] w fun e w' => e = .returned (.bool (evEq x y)) ∧ Below w.heap.size w w' := by
  have hb2 : ∀ o o', Below w.heap.size w ((w.alloc o).alloc o') := fun o o' => ((Below.refl _ _).alloc (Nat.le_refl _) _).alloc (by simp) _
  have HC := Lib.hid (fun o o' => sameRows_calls x.at_ y.at_ x.cap y.cap x.rows y.rows ((w.alloc o).alloc o') (RowsAt.later h (hb2 o o')) (RowsAt.later h' (hb2 o o')) hf hf' hl)
  have HB := Lib.hid (fun o o' w1 (h1 : Below ((w.alloc o).alloc o').heap.size ((w.alloc o).alloc o') w1) => (hb2 o o').trans (h1.mono (by simp; omega)))
  have HB0 := Lib.hid hb2
  have hE : evEq x y = (x.id == y.id && (x.inn == y.inn && x.out == y.out) && x.region.toList == y.region.toList && x.kind == y.kind && x.speaker.toList == y.speaker.toList && rowsEq x.rows y.rows) := rfl
  generalize hQ : (fun (e : Ending) (w' : World) => e = .returned (.bool (evEq x y)) ∧ Below w.heap.size w w') = Q
  generalize rowsEq x.rows y.rows = G at HC hE
  obtain ⟨id, inn, out, reg, kind, sp, xa, xc, xr⟩ := x
  obtain ⟨id', inn', out', reg', kind', sp', ya, yc, yr⟩ := y
  simp only [Ev.enc] at *
  have hsp := run_spanEq inn out inn' out'
  rcases Bool.eq_false_or_eq_true (id == id') with h1 | h1
  rotate_left
  · rw [h1] at hE
    have HQ := Lib.hid (fun w' (hb : Below w.heap.size w w') => show Q (.returned (.bool false)) w' from hQ ▸ ⟨by rw [hE]; rfl, hb⟩)
    clear hQ hE hb2 h h' hf hf' hsp
    go_enter Tryz.func28, Tryz.ntmps28
    go_wp2_with fail
    exact HQ.out _ (HB0.out _ _)
  rcases Bool.eq_false_or_eq_true (inn == inn' && out == out') with h2 | h2
  rotate_left
  · rw [h1, h2] at hE
    rw [h2] at hsp
    have HQ := Lib.hid (fun w' (hb : Below w.heap.size w w') => show Q (.returned (.bool false)) w' from hQ ▸ ⟨by rw [hE]; rfl, hb⟩)
    clear hQ hE hb2 h h' hf hf' h2
    go_enter Tryz.func28, Tryz.ntmps28
    go_wp2_with fail
    exact HQ.out _ (HB0.out _ _)
  rcases Bool.eq_false_or_eq_true (reg.toList == reg'.toList) with h3 | h3
  rotate_left
  · rw [h1, h2, h3] at hE
    rw [h2] at hsp
    have HQ := Lib.hid (fun w' (hb : Below w.heap.size w w') => show Q (.returned (.bool false)) w' from hQ ▸ ⟨by rw [hE]; rfl, hb⟩)
    clear hQ hE hb2 h h' hf hf' h2
    go_enter Tryz.func28, Tryz.ntmps28
    go_wp2_with fail
    exact HQ.out _ (HB0.out _ _)
  rcases Bool.eq_false_or_eq_true (kind == kind') with h4 | h4
  rotate_left
  · rw [h1, h2, h3, h4] at hE
    rw [h2] at hsp
    have HQ := Lib.hid (fun w' (hb : Below w.heap.size w w') => show Q (.returned (.bool false)) w' from hQ ▸ ⟨by rw [hE]; rfl, hb⟩)
    clear hQ hE hb2 h h' hf hf' h2
    go_enter Tryz.func28, Tryz.ntmps28
    go_wp2_with fail
    exact HQ.out _ (HB0.out _ _)
  rcases Bool.eq_false_or_eq_true (sp.toList == sp'.toList) with h5 | h5
  rotate_left
  · rw [h1, h2, h3, h4, h5] at hE
    rw [h2] at hsp
    have HQ := Lib.hid (fun w' (hb : Below w.heap.size w w') => show Q (.returned (.bool false)) w' from hQ ▸ ⟨by rw [hE]; rfl, hb⟩)
    clear hQ hE hb2 h h' hf hf' h2
    go_enter Tryz.func28, Tryz.ntmps28
    go_wp2_with fail
    exact HQ.out _ (HB0.out _ _)
  rw [h1, h2, h3, h4, h5] at hE
  rw [h2] at hsp
  have HQ := Lib.hid (fun w' (hb : Below w.heap.size w w') => show Q (.returned (.bool G)) w' from hQ ▸ ⟨by rw [hE]; rfl, hb⟩)
  clear hQ hE hb2 h h' hf hf' h2
  go_enter Tryz.func28, Tryz.ntmps28
  go_wp2_with fail
  refine (HC.out _ _).mono ?_
  rintro e w1 ⟨rfl, hb⟩
  have HBW := Lib.hid (HB.out _ _ _ hb)
  clear hb
  go_wp2_with fail
  exact HQ.out _ HBW.out
end Go.Proofs.YtnlnmbcaongehaaGreatDoor
namespace Go.Proofs.YtnlnmbcaongehaaGreatDoor
open Go.RowKit
/-- The blocks in which a row's runs lie. -/
def Row.uses (r : Row) (b : Nat) : Prop := sUses r.at_ r.runs b
theorem Row.frame {r : Row} {w w' : World} (h : r.lies w) (hs : w.heap.size ≤ w'.heap.size) (hb : ∀ b, r.uses b → w'.heap[b]? = w.heap[b]?) : r.lies w' := SliceOf.frame h hs hb fun _ _ _ => trivial
theorem Row.uses_lt {r : Row} {w : World} (h : r.lies w) {b : Nat} (hu : r.uses b) : b < w.heap.size := sUses_lt h hu
/-- The blocks in which rows and their runs lie. -/
def rowsUse (a : Option Addr) (rows : List Row) (b : Nat) : Prop := sUses a rows b ∨ ∃ r ∈ rows, r.uses b
theorem rows_each {w : World} {a : Option Addr} {rows : List Row} (h : RowsAt w a rows) {r : Row} (hr : r ∈ rows) : r.lies w := by
  obtain ⟨i, hi, rfl⟩ := List.getElem_of_mem hr
  obtain ⟨b, off, x, _, _, hx, _, hl⟩ := h.at_ hi
  obtain rfl : rows[i] = x := Option.some.inj ((List.getElem?_eq_getElem hi).symm.trans hx)
  exact hl
theorem RowsAt.frame {a : Option Addr} {rows : List Row} {w w' : World} (h : RowsAt w a rows) (hs : w.heap.size ≤ w'.heap.size) (hb : ∀ b, rowsUse a rows b → w'.heap[b]? = w.heap[b]?) : RowsAt w' a rows :=
  SliceOf.frame h hs (fun b hu => hb b (.inl hu)) fun r hr hl => Row.frame hl hs fun b hu => hb b (.inr ⟨r, hr, hu⟩)
theorem rowsUse_lt {w : World} {a : Option Addr} {rows : List Row} (h : RowsAt w a rows) {b : Nat} (hu : rowsUse a rows b) : b < w.heap.size := by
  rcases hu with hu | ⟨r, hr, hu⟩
  · exact sUses_lt h hu
  · exact Row.uses_lt (rows_each h hr) hu
/-- Rows in memory of the call's own, while they are being copied: k of them are done. -/
def CloneRel (rows : List Row) (w : World) (v : Value) (k : Nat) (wr : World) : Prop :=
  ∃ rows' : List Row, rows'.length = rows.length ∧ rows'.map Row.runs = rows.map Row.runs ∧ wr.ownsRow w.heap.size 78 1 v rows.length (rows'.flatMap Row.enc) ∧ (∀ j r, rows'[j]? = some r → r.lies wr ∧ (∀ b, r.uses b → v.ownBlock ≠ some b) ∧ (j < k → ∀ b, r.uses b → w.heap.size ≤ b)) ∧ Below w.heap.size w wr
theorem CloneRel.start {rows : List Row} {w w1 : World} {a : Option Addr} {v : Value} (h : RowsAt w a rows) (ho : w1.ownsRow w.heap.size 78 1 v rows.length (rows.flatMap Row.enc)) (hb : Below w.heap.size w w1) : CloneRel rows w v 0 w1 := by
  refine ⟨rows, rfl, rfl, ho, fun j r hr => ?_, hb⟩
  have hl := rows_each h (List.mem_of_getElem? hr)
  refine ⟨Row.keeps _ _ _ hb hl, fun b hu hv => ?_, fun hj => by omega⟩
  have := (ho.lt _ hv).1
  have := Row.uses_lt hl hu
  omega
theorem rows_flat_set : ∀ (xs : List Row) (k : Nat) (y : Row), k < xs.length → (xs.set k y).flatMap Row.enc = (xs.flatMap Row.enc).set k (.slice y.at_ y.runs.length y.cap)
  | [], k, y, h => by simp at h
  | x :: xs, 0, y, h => by simp [Row.enc]
  | x :: xs, k + 1, y, h => by
    have := rows_flat_set xs k y (by simpa using h)
    simp only [List.set_cons_succ, List.flatMap_cons, this, Row.enc, List.cons_append, List.nil_append]
theorem map_runs_set : ∀ (xs : List Row) (k : Nat) (r y : Row), xs[k]? = some r → y.runs = r.runs → (xs.set k y).map Row.runs = xs.map Row.runs
  | [], k, r, y, h, _ => by simp at h
  | x :: xs, 0, r, y, h, hy => by
    obtain rfl : x = r := by simpa using h
    simp [hy]
  | x :: xs, k + 1, r, y, h, hy => by
    have := map_runs_set xs k r y (by simpa using h) hy
    simp [this]
theorem CloneRel.step {rows rows' : List Row} {w wr w2 : World} {g cv k : Nat} {r : Row} {a2 : Option Addr} {c2 : Nat} (hk : rows'[k]? = some r) (h1 : rows'.length = rows.length) (h2 : rows'.map Row.runs = rows.map Row.runs)
    (h3 : wr.ownsRow w.heap.size 78 1 (.slice (some ⟨g, 0, none⟩) rows.length cv) rows.length (rows'.flatMap Row.enc)) (h4 : ∀ j r, rows'[j]? = some r → r.lies wr ∧ (∀ b, r.uses b → (Value.slice (some ⟨g, 0, none⟩) rows.length cv).ownBlock ≠ some b) ∧ (j < k → ∀ b, r.uses b → w.heap.size ≤ b)) (h5 : Below w.heap.size w wr)
    (hb : Below wr.heap.size wr w2) (ho : w2.ownsRow wr.heap.size 75 5 (.slice a2 r.runs.length c2) r.runs.length (r.runs.flatMap Run.enc)) :
    CloneRel rows w (.slice (some ⟨g, 0, none⟩) rows.length cv) (k + 1) (w2.setCell ⟨g, k, none⟩ (.slice a2 r.runs.length c2)) := by
  have hkl : k < rows'.length := (List.getElem?_eq_some_iff.1 hk).1
  have hg := h3.lt g rfl
  have h3' := (owns_below h3 hb).stored k (.slice a2 r.runs.length c2)
  refine ⟨rows'.set k ⟨a2, c2, r.runs⟩, by simpa using h1, (map_runs_set rows' k r ⟨a2, c2, r.runs⟩ hk rfl).trans h2, ?_, fun j x hx => ?_, ?_⟩
  · rw [rows_flat_set rows' k _ hkl]
    exact h3'.1
  · rw [List.getElem?_set] at hx
    by_cases hjk : k = j
    · rw [if_pos hjk, if_pos hkl] at hx
      obtain rfl := Option.some.inj hx
      obtain ⟨a3, c3, he, hS⟩ := sliceOf_owns (k := 5) (enc := Run.enc) (Ok := Flat) (fun _ => rfl) ho (fun _ _ => trivial)
      simp only [Value.slice.injEq] at he
      obtain ⟨rfl, _, _⟩ := he
      have hfr : ∀ b, Row.uses ⟨a2, c2, r.runs⟩ b → wr.heap.size ≤ b := fun b ⟨_, ad, had, hbb⟩ => by
        have had : a2 = some ad := had
        subst had
        rw [← hbb]
        exact (ho.lt ad.block rfl).1
      refine ⟨Row.frame hS (by simp) (fun b hu => ?_), fun b hu e => ?_, fun _ b hu => Nat.le_trans h5.size (hfr b hu)⟩
      · have := hfr b hu
        exact Below.heap_setCell w2 ⟨g, k, none⟩ _ b (by simp only; omega)
      · have := hfr b hu
        simp only [Value.ownBlock, Option.some.injEq] at e
        omega
    · rw [if_neg hjk] at hx
      obtain ⟨hl, hap, hfr⟩ := h4 j x hx
      refine ⟨Row.frame (Row.keeps _ _ _ hb hl) (by simp) (fun b hu => ?_), hap, fun hj => hfr (by omega)⟩
      refine Below.heap_setCell w2 ⟨g, k, none⟩ _ b (fun e => hap b hu ?_)
      rw [e]; rfl
  · exact (h5.trans (hb.mono h5.size)).setCell hg.1 _
/-- Rows in memory of the call's own, with the same runs. -/
def RowsCopy (rows : List Row) (w : World) (e : Ending) (w' : World) : Prop := ∃ a' cap' rows', e = .returned (.slice a' rows'.length cap') ∧ RowsAt w' a' rows' ∧ rows'.map Row.runs = rows.map Row.runs ∧ (∀ b, rowsUse a' rows' b → w.heap.size ≤ b) ∧ Below w.heap.size w w'
theorem CloneRel.done {rows : List Row} {w wr : World} {a : Option Addr} {c : Nat} (h : CloneRel rows w (.slice a rows.length c) rows.length wr) : RowsCopy rows w (.returned (.slice a rows.length c)) wr := by
  obtain ⟨rows', h1, h2, h3, h4, h5⟩ := h
  have h3' := h3
  rw [← h1] at h3
  obtain ⟨a', c', he, hS⟩ := sliceOf_owns (k := 1) (enc := Row.enc) (Ok := Row.lies) (fun _ => rfl) h3 (fun r hr => by
    obtain ⟨j, hj, rfl⟩ := List.getElem_of_mem hr
    exact (h4 j _ (List.getElem?_eq_getElem hj)).1)
  simp only [Value.slice.injEq] at he
  obtain ⟨rfl, _, rfl⟩ := he
  refine ⟨a, c, rows', by rw [h1], hS, h2, fun b hu => ?_, h5⟩
  rcases hu with ⟨_, ad, rfl, rfl⟩ | ⟨r, hr, hu⟩
  · exact (h3'.lt _ rfl).1
  · obtain ⟨j, hj, rfl⟩ := List.getElem_of_mem hr
    exact (h4 j _ (List.getElem?_eq_getElem hj)).2.2 (by omega) b hu
set_option maxRecDepth 100000 in
set_option maxHeartbeats 3200000 in
theorem styleClone_calls (a : Option Addr) (cap : Nat) (rows : List Row) (w : World) (h : RowsAt w a rows) (hf : ∀ r ∈ rows, r.runs.length ≤ 4000000) (hl : rows.length ≤ 4000000) :
    Calls Tryz.prog 96 #[.slice a rows.length cap] w (RowsCopy rows w) := by
  have HC := Lib.hid (clone167_calls a cap rows w h hl)
  have HS := Lib.hid (fun (w1 : World) (v : Value) (ho : w1.ownsRow w.heap.size 78 1 v rows.length (rows.flatMap Row.enc)) (hb : Below w.heap.size w w1) => CloneRel.start h ho hb)
  have HD := Lib.hid (fun (wr : World) (a : Option Addr) (c : Nat) (h : CloneRel rows w (.slice a rows.length c) rows.length wr) => h.done)
  have HF := Lib.hid (fun (rows' : List Row) (e : rows'.map Row.runs = rows.map Row.runs) (r : Row) (hr : r ∈ rows') => (show r.runs.length ≤ 4000000 by
    have : r.runs ∈ rows.map Row.runs := by rw [← e]; exact List.mem_map.2 ⟨r, hr, rfl⟩
    obtain ⟨r0, h0, he⟩ := List.mem_map.1 this
    rw [← he]; exact hf r0 h0))
  clear h hf
  generalize RowsCopy rows w = Q at *
  go_enter Tryz.func96, Tryz.ntmps96
  go_wp2_with fail
  refine HC.out.mono ?_
  rintro e w1 ⟨v, rfl, hown, hb1⟩
  obtain ⟨av, cv, rfl⟩ : ∃ av cv, v = .slice av rows.length cv := by
    rcases hown.2 with ⟨rfl, h0⟩ | ⟨g, cap, _, rfl, _⟩
    · exact ⟨none, 0, by rw [h0]⟩
    · exact ⟨_, _, rfl⟩
  have HR := Lib.hid (HS.out _ _ hown hb1)
  clear hown hb1 HC HS
  go_wp2_with fail
  go_loopw [9] (fun i wr => ∃ k : Nat, k ≤ rows.length ∧ i = .int .i64 k ∧ CloneRel rows w (.slice av rows.length cv) k wr) (fun i _ => rows.length - (intOf i).toNat)
  case atStart => exact ⟨0, by omega, rfl, HR.out⟩
  case round =>
    clear HR
    obtain ⟨k, hk, rfl, hrel⟩ := hrel
    by_cases hlt : k < rows.length
    · obtain ⟨rows', h1, h2, h3, h4, h5⟩ := hrel
      obtain ⟨g, c', he⟩ := ownForm h3 (by omega)
      simp only [Value.slice.injEq, true_and] at he
      obtain ⟨rfl, rfl⟩ := he
      have hk' : rows'[k]? = some rows'[k] := List.getElem?_eq_getElem (by omega)
      generalize rows'[k] = r at hk'
      have hmem := List.mem_of_getElem? hk'
      have hc0 : wr.cell? ⟨g, k, none⟩ = some (.slice r.at_ r.runs.length r.cap) := by
        rw [h3.cellAt k (by omega)]
        have := flat_at Row.enc 1 (fun _ => rfl) rows' k r 0 _ hk' rfl
        rw [show k * 1 + 0 = k by omega] at this
        exact this
      have HC2 := Lib.hid (clone168_calls (Ok := Flat) r.at_ r.cap r.runs wr (h4 k r hk').1 (HF.out _ h2 r hmem))
      have HK := Lib.hid (fun (w2 : World) (hb : Below wr.heap.size wr w2) => (show w2.cell? ⟨g, k, none⟩ = some (.slice r.at_ r.runs.length r.cap) ∧ w2.frozen? ⟨g, k, none⟩ = false from
        ⟨(hb.cell (p := ⟨g, k, none⟩) (h3.lt g rfl).2).trans hc0, (owns_below h3 hb).frozenAt k⟩))
      have HST := Lib.hid (fun (w2 : World) (a2 : Option Addr) (c2 : Nat) (hb : Below wr.heap.size wr w2) (ho : w2.ownsRow wr.heap.size 75 5 (.slice a2 r.runs.length c2) r.runs.length (r.runs.flatMap Run.enc)) => CloneRel.step hk' h1 h2 h3 h4 h5 hb ho)
      clear h1 h2 h3 h4 h5 hk' hmem
      obtain ⟨ra, rc, rr⟩ := r
      simp only at *
      go_wp2_with fail
      refine HC2.out.mono ?_
      rintro e w2 ⟨v2, rfl, hown2, hb2⟩
      obtain ⟨a2, c2, rfl⟩ : ∃ av cv, v2 = .slice av rr.length cv := by
        rcases hown2.2 with ⟨rfl, h0⟩ | ⟨g, cap, _, rfl, _⟩
        · exact ⟨none, 0, by rw [h0]⟩
        · exact ⟨_, _, rfl⟩
      obtain ⟨k1, k2⟩ := HK.out _ hb2
      have HN := Lib.hid (HST.out _ _ _ hb2 hown2)
      clear hown2 hb2 HC2 HK HST hc0
      go_wp2_with fail
      go_roundw
      case rel => exact ⟨k + 1, by omega, by go_num, HN.out⟩
      case measure => simp [intOf]; omega
    · obtain rfl : k = rows.length := by omega
      have HN := Lib.hid hrel
      clear hrel
      go_wp2_with fail
      exact HD.out _ _ _ HN.out
/-- The contents of an event. -/
structure EvC where
  id : Int
  inn : Int
  out : Int
  region : ByteArray
  kind : Int
  speaker : ByteArray
  rows : List (List Run)
def Ev.c (x : Ev) : EvC := ⟨x.id, x.inn, x.out, x.region, x.kind, x.speaker, x.rows.map Row.runs⟩
def Ev.uses (x : Ev) (b : Nat) : Prop := rowsUse x.at_ x.rows b
theorem Ev.frame {x : Ev} {w w' : World} (h : x.lies w) (hs : w.heap.size ≤ w'.heap.size) (hb : ∀ b, x.uses b → w'.heap[b]? = w.heap[b]?) : x.lies w' := RowsAt.frame h hs hb
theorem Ev.uses_lt {x : Ev} {w : World} (h : x.lies w) {b : Nat} (hu : x.uses b) : b < w.heap.size := rowsUse_lt h hu
/-- An event with the same contents, in memory of the call's own. -/
def EvCopy (c : EvC) (w : World) (e : Ending) (w' : World) : Prop := ∃ y : Ev, e = .returned (.agg y.enc.toArray) ∧ y.c = c ∧ y.lies w' ∧ (∀ b, y.uses b → w.heap.size ≤ b) ∧ Below w.heap.size w w'
set_option maxRecDepth 100000 in
set_option maxHeartbeats 3200000 in
theorem evClone_calls (x : Ev) (w : World) (h : x.lies w) (hf : ∀ r ∈ x.rows, r.runs.length ≤ 4000000) (hl : x.rows.length ≤ 4000000) :
    Calls Tryz.prog 40 #[.agg x.enc.toArray] w (EvCopy x.c w) := by
  generalize hcs : x.enc.toArray = cs
  have HC := Lib.hid (fun (o : Obj) => styleClone_calls x.at_ x.cap x.rows ((w.alloc (.cells cs 50)).alloc o) (RowsAt.later h (((Below.refl _ _).alloc (Nat.le_refl _) _).alloc (by simp) _)) hf hl)
  have HQ := Lib.hid (fun (a : Option Addr) (c : Nat) (rows : List Row) (w' : World) (e : rows.map Row.runs = x.rows.map Row.runs) (h : RowsAt w' a rows) (hu : ∀ b, rowsUse a rows b → w.heap.size ≤ b) (hb : Below w.heap.size w w') => (show EvCopy x.c w (.returned (.agg #[.int .i64 x.id, .int .i64 x.inn, .int .i64 x.out, .string x.region, .int .u8 x.kind, .string x.speaker, .slice a rows.length c])) w' from
    ⟨⟨x.id, x.inn, x.out, x.region, x.kind, x.speaker, a, c, rows⟩, rfl, by simp only [Ev.c, e], h, hu, hb⟩))
  have HB := Lib.hid (fun (o o' : Obj) (w1 : World) (hb : Below ((w.alloc o).alloc o').heap.size ((w.alloc o).alloc o') w1) => (show Below w.heap.size w w1 from (((Below.refl _ _).alloc (Nat.le_refl _) _).alloc (by simp) _).trans (hb.mono (by simp; omega))))
  have HK := Lib.hid (fun (o : Array Value) (w1 : World) (hb : Below ((w.alloc (.cells cs 50)).alloc (.cells o 50)).heap.size ((w.alloc (.cells cs 50)).alloc (.cells o 50)) w1) => (show (w1.heap[w.heap.size]? = some (.cells cs 50 (0, 0)) ∧ w1.heap[w.heap.size + 1]? = some (.cells o 50 (0, 0))) by
    refine ⟨?_, ?_⟩
    · rw [hb.block _ (by simp; omega), Below.heap_alloc _ _ _ (by simp)]
      exact heap_alloc_last w _
    · rw [hb.block _ (by simp)]
      have := heap_alloc_last (w.alloc (.cells cs 50)) (.cells o 50)
      rwa [World.size_alloc] at this))
  obtain ⟨id, inn, out, reg, kind, sp, a, c, rows⟩ := x
  simp only at *
  generalize EvCopy _ w = Q at *
  clear h hf
  simp only [Ev.enc] at hcs
  go_enter Tryz.func40, Tryz.ntmps40
  subst hcs
  go_wp2_with fail
  refine (HC.out _).mono ?_
  rintro e w1 ⟨a', c', rows', rfl, hr, hm, hu, hb⟩
  obtain ⟨hk1, hk2⟩ := HK.out _ _ hb
  have HBW := Lib.hid (HB.out _ _ _ hb)
  have HR := Lib.hid hr
  have HM := Lib.hid hm
  have HU := Lib.hid hu
  clear hb hr hm hu HC HB HK
  have c1 : ∀ j, w1.cell? ⟨w.heap.size, j, none⟩ = _ := fun j => cell_of_row _ _ j _ 50 (0, 0) hk1
  have c2 : ∀ j, w1.cell? ⟨w.heap.size + 1, j, none⟩ = _ := fun j => cell_of_row _ _ j _ 50 (0, 0) hk2
  have z1 : ∀ j, w1.frozen? ⟨w.heap.size, j, none⟩ = false := fun j => by simp [World.frozen?, hk1]
  have z2 : ∀ j, w1.frozen? ⟨w.heap.size + 1, j, none⟩ = false := fun j => by simp [World.frozen?, hk2]
  clear hk1 hk2
  go_wp2_with fail
  refine bodyPost_ret (v := .agg #[.int .i64 id, .int .i64 inn, .int .i64 out, .string reg, .int .u8 kind, .string sp, .slice a' rows'.length c']) (by simp [results, Tryz.results40, go_sem, c2]) rfl ?_
  have HF := Lib.hid (fun (b : Nat) (u u0 u1 u2 u3 u4 u5 u6 : Value) (hb : w.heap.size + 2 ≤ b) => (show ((((((((w1.setCell ⟨w.heap.size, 6, none⟩ u).setCell ⟨w.heap.size + 1, 0, none⟩ u0).setCell ⟨w.heap.size + 1, 1, none⟩ u1).setCell ⟨w.heap.size + 1, 2, none⟩ u2).setCell ⟨w.heap.size + 1, 3, none⟩ u3).setCell ⟨w.heap.size + 1, 4, none⟩ u4).setCell ⟨w.heap.size + 1, 5, none⟩ u5).setCell ⟨w.heap.size + 1, 6, none⟩ u6).heap[b]? = w1.heap[b]? by
    repeat rw [Below.heap_setCell _ _ _ _ (by simp only; omega)]))
  have HUU : ∀ b, rowsUse a' rows' b → w.heap.size + 2 ≤ b := fun b hu => by
    have := HU.out b hu
    simp at this
    omega
  refine HQ.out _ _ _ _ HM.out (RowsAt.frame HR.out (by simp) fun b hu => HF.out b _ _ _ _ _ _ _ _ (HUU b hu)) (fun b hu => by have := HUU b hu; omega) ?_
  repeat refine Below.setCell ?_ (by simp only; omega) _
  exact HBW.out
end Go.Proofs.YtnlnmbcaongehaaGreatDoor
namespace Go.Proofs.YtnlnmbcaongehaaGreatDoor
open Go.RowKit
/-- A change. -/
structure Chg where
  sec : Int
  id : Int
  name : ByteArray
  added : Bool
  gone : Bool
  oh : Hd
  nh : Hd
  rg : Reg
  nr : Reg
  oe : Ev
  ne : Ev
  oc : Cm
  nc : Cm
def Chg.enc (c : Chg) : List Value := [.int .u8 c.sec, .int .i64 c.id, .string c.name, .bool c.added, .bool c.gone] ++ (c.oh.enc ++ (c.nh.enc ++ (c.rg.enc ++ (c.nr.enc ++ (c.oe.enc ++ (c.ne.enc ++ (c.oc.enc ++ c.nc.enc)))))))
theorem Chg.len (c : Chg) : c.enc.length = 59 := rfl
def Chg.lies (w : World) (c : Chg) : Prop := c.oe.lies w ∧ c.ne.lies w
def Chg.uses (c : Chg) (b : Nat) : Prop := c.oe.uses b ∨ c.ne.uses b
theorem Chg.deep : Deep Chg.lies Chg.uses :=
  ⟨fun x w w' h hs hb => ⟨Ev.frame h.1 hs fun b hu => hb b (.inl hu), Ev.frame h.2 hs fun b hu => hb b (.inr hu)⟩, fun x w b h hu => hu.elim (Ev.uses_lt h.1) (Ev.uses_lt h.2)⟩
theorem Chg.keeps : Keeps Chg.lies := fun w w' x hb h => ⟨Ev.keeps _ _ _ hb h.1, Ev.keeps _ _ _ hb h.2⟩
theorem Hd.one : ∀ (x : Hd) (v : Value), v ∈ x.enc → v.oneCell' = true := by
  intro x v hv
  simp only [Hd.enc, List.mem_cons, List.not_mem_nil, or_false] at hv
  rcases hv with rfl | rfl | rfl | rfl | rfl <;> rfl
theorem Chg.one : ∀ (x : Chg) (v : Value), v ∈ x.enc → v.oneCell' = true := by
  intro x v hv
  simp only [Chg.enc, List.mem_append] at hv
  rcases hv with h | h | h | h | h | h | h | h | h
  · simp only [List.mem_cons, List.not_mem_nil, or_false] at h
    rcases h with rfl | rfl | rfl | rfl | rfl <;> rfl
  · exact Hd.one _ _ h
  · exact Hd.one _ _ h
  · exact Reg.one _ _ h
  · exact Reg.one _ _ h
  · exact Ev.one _ _ h
  · exact Ev.one _ _ h
  · exact Cm.one _ _ h
  · exact Cm.one _ _ h
/-- The contents of a change. -/
structure ChgC where
  sec : Int
  id : Int
  name : ByteArray
  added : Bool
  gone : Bool
  oh : Hd
  nh : Hd
  rg : Reg
  nr : Reg
  oe : EvC
  ne : EvC
  oc : Cm
  nc : Cm
def Chg.c (x : Chg) : ChgC := ⟨x.sec, x.id, x.name, x.added, x.gone, x.oh, x.nh, x.rg, x.nr, x.oe.c, x.ne.c, x.oc, x.nc⟩
def zeroHd : Hd := ⟨⟨#[]⟩, ⟨#[]⟩, 0, false, 0⟩
def zeroEvC : EvC := zeroEv.c
theorem zeroEv_lies (w : World) : zeroEv.lies w := .inl rfl
theorem zeroEv_uses (b : Nat) : ¬ zeroEv.uses b := by
  rintro (⟨h, _⟩ | ⟨r, hr, _⟩)
  · exact h rfl
  · simp [zeroEv] at hr
abbrev GrowChg := GrowL 54 59 Chg.enc Chg.lies Chg.uses
theorem Tryz.info54 : (Tryz.prog.info? 54).map (fun i => (i.zero.map Value.cells |>.map Array.size, i.size, i.bytes)) = some (some 59, 59, 568) := by kernel_rfl
theorem chgInfo : ∃ i z, Tryz.prog.info? 54 = some i ∧ i.zero = some z ∧ i.size = 59 ∧ i.bytes = 568 ∧ z.cells.size = 59 := by
  have h := Tryz.info54
  cases hi : Tryz.prog.info? 54 with
  | none => rw [hi] at h; simp at h
  | some i =>
    rw [hi] at h
    simp only [Option.map_some, Option.some.injEq, Prod.mk.injEq] at h
    obtain ⟨h1, h2, h3⟩ := h
    cases hz : i.zero with
    | none => rw [hz] at h1; simp at h1
    | some z =>
      rw [hz] at h1
      exact ⟨i, z, rfl, hz, h2, h3, by simpa using h1⟩
def regEq (a b : Reg) : Bool := a.name.toList == b.name.toList && a.top == b.top && a.height == b.height && a.left == b.left && a.width == b.width && a.align == b.align && a.bottom == b.bottom
def cmEq (a b : Cm) : Bool := a.id == b.id && a.ev == b.ev && a.frm == b.frm && a.til == b.til && a.author.toList == b.author.toList && a.text.toList == b.text.toList && a.done == b.done && a.lost == b.lost
theorem run_regNe (a b : Reg) (w : World) : (binOp .neq 44 (.agg a.enc.toArray) (.agg b.enc.toArray)).run Tryz.prog w = .ok (.bool (!regEq a b)) w := by
  simp [go_sem, Reg.enc, regEq]
  repeat' split
  all_goals simp_all
theorem run_regEq (a b : Reg) (w : World) : (binOp .eql 44 (.agg a.enc.toArray) (.agg b.enc.toArray)).run Tryz.prog w = .ok (.bool (regEq a b)) w := by
  simp [go_sem, Reg.enc, regEq]
  repeat' split
  all_goals simp_all
theorem run_cmNe (a b : Cm) (w : World) : (binOp .neq 52 (.agg a.enc.toArray) (.agg b.enc.toArray)).run Tryz.prog w = .ok (.bool (!cmEq a b)) w := by
  simp [go_sem, Cm.enc, cmEq]
  repeat' split
  all_goals simp_all
def nameIs (k : ByteArray) (x : Reg) : Bool := x.name.toList == k.toList
def evIs (k : Int) (x : Ev) : Bool := x.id == k
def cmIs (k : Int) (x : Cm) : Bool := x.id == k
/-- The change of the header. -/
def chgHead (a b : Hd) : List ChgC := if hdEq a b = true then [] else [⟨1, 0, ⟨#[]⟩, false, false, a, b, zeroReg, zeroReg, zeroEvC, zeroEvC, zeroCm, zeroCm⟩]
/-- The change of a region, an event, a comment. -/
def chgReg (xs ys : List Reg) (k : ByteArray) : List ChgC :=
  if ((xs.find? (nameIs k)).isSome != (ys.find? (nameIs k)).isSome || !regEq ((xs.find? (nameIs k)).getD zeroReg) ((ys.find? (nameIs k)).getD zeroReg)) = true then
    [⟨2, 0, k, !(xs.find? (nameIs k)).isSome, !(ys.find? (nameIs k)).isSome, zeroHd, zeroHd, (xs.find? (nameIs k)).getD zeroReg, (ys.find? (nameIs k)).getD zeroReg, zeroEvC, zeroEvC, zeroCm, zeroCm⟩] else []
def chgEv (xs ys : List Ev) (k : Int) : List ChgC :=
  if ((xs.find? (evIs k)).isSome != (ys.find? (evIs k)).isSome || !evEq ((xs.find? (evIs k)).getD zeroEv) ((ys.find? (evIs k)).getD zeroEv)) = true then
    [⟨3, k, ⟨#[]⟩, !(xs.find? (evIs k)).isSome, !(ys.find? (evIs k)).isSome, zeroHd, zeroHd, zeroReg, zeroReg, ((xs.find? (evIs k)).getD zeroEv).c, ((ys.find? (evIs k)).getD zeroEv).c, zeroCm, zeroCm⟩] else []
def chgCm (xs ys : List Cm) (k : Int) : List ChgC :=
  if ((xs.find? (cmIs k)).isSome != (ys.find? (cmIs k)).isSome || !cmEq ((xs.find? (cmIs k)).getD zeroCm) ((ys.find? (cmIs k)).getD zeroCm)) = true then
    [⟨4, k, ⟨#[]⟩, !(xs.find? (cmIs k)).isSome, !(ys.find? (cmIs k)).isSome, zeroHd, zeroHd, zeroReg, zeroReg, zeroEvC, zeroEvC, (xs.find? (cmIs k)).getD zeroCm, (ys.find? (cmIs k)).getD zeroCm⟩] else []
end Go.Proofs.YtnlnmbcaongehaaGreatDoor
