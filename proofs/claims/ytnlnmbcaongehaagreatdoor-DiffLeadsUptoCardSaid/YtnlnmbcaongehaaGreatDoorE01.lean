/- How the readings of the arguments give links and documents in memory. What the rows' list of the library's variables gives, and a world for the witness. The error of a document hangs on its contents alone; what a document without an error holds. -/
import Derived.Test.YtnlnmbcaongehaaGreatDoorRows
import Derived.Deep.Slices
import Derived.Deep.Fields
import Derived.ChangeSame
import Derived.WalkKit
import Derived.ProofKit
import Derived.OpenShut
import Derived.Deep.DeepHandedRow
import Derived.Deep.DeepWitnessRowRef
import Derived.Lib.LaidTab
import Derived.Lib.LaidU8T
import Derived.Stop.LaidErr
import Derived.Carry
import Derived.Shelf.Vars
import Derived.MakeChecks
import Derived.Test.YtnlnmbcaongehaaGreatDoorBase07
import Derived.Test.YtnlnmbcaongehaaGreatDoorBase03
import Derived.Test.YtnlnmbcaongehaaGreatDoorBase02
import Derived.Test.YtnlnmbcaongehaaGreatDoorBase01
import Derived.Test.YtnlnmbcaongehaaGreatDoorBase00
import Derived.Test.YtnlnmbcaongehaaGreatDoorBase20
import Derived.Test.YtnlnmbcaongehaaGreatDoorBase18
import Derived.Test.YtnlnmbcaongehaaGreatDoorBase17
import Derived.Test.YtnlnmbcaongehaaGreatDoorBase09
import Derived.Test.YtnlnmbcaongehaaGreatDoorBase08
import Derived.Test.YtnlnmbcaongehaaGreatDoorBase06
import Derived.Test.YtnlnmbcaongehaaGreatDoorE00
import Derived.Test.YtnlnmbcaongehaaGreatDoorBase05
import Derived.Test.YtnlnmbcaongehaaGreatDoorBase16
import Derived.Test.YtnlnmbcaongehaaGreatDoorBase12
import Derived.Test.YtnlnmbcaongehaaGreatDoorBase15
import Derived.Test.YtnlnmbcaongehaaGreatDoorBase14
import Derived.Test.YtnlnmbcaongehaaGreatDoorBase13
import Derived.Test.YtnlnmbcaongehaaGreatDoorBase04
import Derived.Test.YtnlnmbcaongehaaGreatDoorBase19
set_option linter.unusedVariables false
set_option linter.unusedSimpArgs false
namespace Go.Proofs.YtnlnmbcaongehaaGreatDoor
open Go.RowKit Go.ChangeShapes Go.WideShapes Go.Deep
theorem bulk_one {H : Type} (d : DataW H) : 1 ≤ Rows.uptoBulk d := by
  cases d with
  | lit l => cases l <;> simp [Rows.uptoBulk]
  | nil => simp [Rows.uptoBulk]
  | ptr d => simp [Rows.uptoBulk]
  | slice elems spare => simp [Rows.uptoBulk]
  | agg parts => simp [Rows.uptoBulk]
  | iface t d => simp [Rows.uptoBulk]
  | map entries => simp [Rows.uptoBulk]
  | held h => simp [Rows.uptoBulk]
theorem bulk_part {H : Type} {d : DataW H} {l : List (DataW H)} (h : d ∈ l) : Rows.uptoBulk d ≤ Rows.uptoBulkAll l := by
  induction l with
  | nil => cases h
  | cons x r ih =>
    simp only [Rows.uptoBulkAll]
    cases List.mem_cons.1 h with
    | inl e => subst e; omega
    | inr e => have := ih e; omega
theorem bulk_sum {H : Type} (l : List (DataW H)) : Rows.uptoBulkAll l = (l.map Rows.uptoBulk).sum := by
  induction l with
  | nil => simp [Rows.uptoBulkAll]
  | cons x r ih => simp [Rows.uptoBulkAll, ih]
theorem build {α : Type} {Q : Nat → α → Prop} : ∀ n, (∀ i, i < n → ∃ a, Q i a) → ∃ xs : List α, xs.length = n ∧ ∀ i x, xs[i]? = some x → Q i x
  | 0, _ => ⟨[], rfl, by simp⟩
  | n + 1, h => by
    obtain ⟨xs, hl, hx⟩ := build n (fun i hi => h i (by omega))
    obtain ⟨a, ha⟩ := h n (by omega)
    refine ⟨xs ++ [a], by simp [hl], fun i x hi => ?_⟩
    by_cases hn : i < n
    · rw [List.getElem?_append_left (by omega)] at hi
      exact hx i x hi
    · have hil : i < (xs ++ [a]).length := (List.getElem?_eq_some_iff.1 hi).1
      obtain rfl : i = n := by simp at hil; omega
      rw [List.getElem?_append_right (by omega), hl, Nat.sub_self] at hi
      obtain rfl : a = x := by simpa using hi
      exact ha
theorem sum_le {α : Type} (μ : α → Nat) : ∀ (xs : List α) (g : Nat → Nat), (∀ i x, xs[i]? = some x → μ x ≤ g i) → (xs.map μ).sum ≤ ((List.range xs.length).map g).sum
  | [], g, _ => by simp
  | x :: l, g, h => by
    have ih := sum_le μ l (fun i => g (i + 1)) (fun i y hy => h (i + 1) y (by simpa using hy))
    have h0 := h 0 x rfl
    rw [List.length_cons, List.range_succ_eq_map, List.map_cons, List.map_cons, List.sum_cons, List.sum_cons, List.map_map]
    exact Nat.add_le_add h0 ih
theorem len_le (g : Nat → Nat) (h : ∀ i, 1 ≤ g i) : ∀ n, n ≤ ((List.range n).map g).sum
  | 0 => by simp
  | n + 1 => by
    have := len_le g h n
    have := h n
    rw [List.range_succ, List.map_append, List.sum_append]
    simp
    omega
section
variable {H : Type} (enc : TypeId × Value → H) (w : World) (base : Nat) (sp : Nat → Bool) (held : Bool)
/-- What reads at a type is an α, with a measure that the reading's bulk bounds. -/
def Reads {α : Type} (t : TypeId) (ea : α → List Value) (Ok : World → α → Prop) (fits : α → Prop) (μ : α → Nat) : Prop :=
  ∀ fuel cs (x : DataW H × List MemPlace), DataW.trod enc Tryz.prog w base sp held fuel t cs = some x → Rows.uptoBulk x.1 ≤ 1048576 → ∃ a : α, cs = ea a ∧ Ok w a ∧ fits a ∧ μ a ≤ Rows.uptoBulk x.1
end
theorem reads_slice {H : Type} {enc : TypeId × Value → H} {w : World} {base : Nat} {sp : Nat → Bool} {held : Bool} {α : Type} {t e k : Nat} {ea : α → List Value} {Ok : World → α → Prop} {fits : α → Prop} {μ : α → Nat}
    (ht : Tryz.prog.underlying t = some (.slice e)) (hk : Tryz.prog.cellsOf e = k) (hk0 : 0 < k) (hlen : ∀ a, (ea a).length = k) (hr : Reads enc w base sp held e ea Ok fits μ)
    (fuel : Nat) (cs : List Value) (x : DataW H × List MemPlace) (h : DataW.trod enc Tryz.prog w base sp held fuel t cs = some x) (hb : Rows.uptoBulk x.1 ≤ 1048576) :
    ∃ (a : Option Addr) (xs : List α) (cap : Nat), cs = [.slice a xs.length cap] ∧ SliceOf k ea Ok w a xs ∧ (∀ y ∈ xs, fits y) ∧ xs.length ≤ Rows.uptoBulk x.1 ∧ (xs.map μ).sum ≤ Rows.uptoBulk x.1 := by
  rcases open_slice ht h with ⟨rfl, rfl⟩ | ⟨a, len, cap, m, n, D, Pl, rfl, hbl, hl, hm, hmm, rfl, hi⟩
  · exact ⟨none, [], 0, rfl, .inl rfl, by simp, by simp, by simp⟩
  · have hml : len ≤ m := by rw [hmm]; split <;> omega
    simp only [Rows.uptoBulk] at hb ⊢
    have hD : ∀ i, i < len → Rows.uptoBulk (D i) ≤ Rows.uptoBulkAll ((List.range len).map D) := fun i hi => bulk_part (List.mem_map.2 ⟨i, List.mem_range.2 hi, rfl⟩)
    obtain ⟨xs, hxl, hx⟩ := build (Q := fun i y => (∀ j v, (ea y)[j]? = some v → w.cell? ((a.add (i * k)).add j) = some v) ∧ Ok w y ∧ fits y ∧ μ y ≤ Rows.uptoBulk (D i)) len (fun i hil => by
      obtain ⟨cs', hc, htr⟩ := hi i (by omega)
      obtain ⟨y, hy1, hy2, hy3, hy4⟩ := hr n cs' (D i, Pl i) htr (by have := hD i hil; simp only; omega)
      rw [hk] at hc
      obtain ⟨_, hcl, hat⟩ := World.cells?_some hc
      refine ⟨y, fun j v hv => ?_, hy2, hy3, hy4⟩
      have hj : j < k := by have := (List.getElem?_eq_some_iff.1 hv).1; rw [hlen] at this; exact this
      rw [hat j hj, hy1]
      exact hv)
    refine ⟨some a, xs, cap, by rw [hxl], ?_, fun y hy => ?_, ?_, ?_⟩
    · cases xs with
      | nil => exact .inl rfl
      | cons y0 ys =>
        have h0 := (hx 0 y0 rfl).1
        have hy0 : ∃ v, (ea y0)[0]? = some v := ⟨_, List.getElem?_eq_getElem (by rw [hlen]; exact hk0)⟩
        obtain ⟨v0, hv0⟩ := hy0
        have hc0 := h0 0 v0 hv0
        simp only [Nat.zero_mul] at hc0
        obtain ⟨b, off, spot⟩ := a
        have hspot : spot = none := by simpa [Addr.add] using World.cell?_spot hc0
        subst hspot
        refine .inr ⟨b, off, rfl, by simpa [Addr.add] using World.block_lt_of_cell? w _ hc0, fun i y hy => ⟨fun j v hv => ?_, (hx i y hy).2.1⟩⟩
        have := (hx i y hy).1 j v hv
        have e : ((⟨b, off, none⟩ : Addr).add (i * k)).add j = ⟨b, off + i * k + j, none⟩ := by
          unfold Addr.add
          split <;> split <;> simp_all
        rw [e] at this
        exact this
    · obtain ⟨i, hi'⟩ := List.getElem?_of_mem hy
      exact (hx i y hi').2.2.1
    · have h1 : xs.length ≤ Rows.uptoBulkAll ((List.range len).map D) := by
        rw [bulk_sum, List.map_map, hxl]
        exact len_le _ (fun i => bulk_one _) len
      omega
    · have h1 := sum_le μ xs (fun i => Rows.uptoBulk (D i)) (fun i y hy => (hx i y hy).2.2.2)
      have h2 : ((List.range xs.length).map fun i => Rows.uptoBulk (D i)).sum = Rows.uptoBulkAll ((List.range len).map D) := by
        rw [bulk_sum, List.map_map, hxl]; rfl
      omega
theorem min64 : IntKind.i64.min = -9223372036854775808 := by decide
theorem max64 : IntKind.i64.max = 9223372036854775807 := by decide
theorem min8 : IntKind.u8.min = 0 := by decide
theorem max8 : IntKind.u8.max = 255 := by decide
theorem i64_of {n : Int} (h : (Lit.int .i64 n).wf = true) : i64 n := by
  simp only [Lit.wf, Bool.and_eq_true, decide_eq_true_eq, min64, max64] at h
  exact h
theorem u8_of {n : Int} (h : (Lit.int .u8 n).wf = true) : 0 ≤ n ∧ n ≤ 255 := by
  simp only [Lit.wf, Bool.and_eq_true, decide_eq_true_eq, min8, max8] at h
  exact h
theorem list1 {α : Type} {l : List α} (h : l.length = 1) : ∃ a0, l = [a0] := by
  obtain _ | ⟨a0, l⟩ := l
  · simp at h
  obtain _ | ⟨b, l⟩ := l
  · exact ⟨a0, rfl⟩
  · simp at h
theorem list2 {α : Type} {l : List α} (h : l.length = 2) : ∃ a0 a1, l = [a0, a1] := by
  obtain _ | ⟨a0, l⟩ := l
  · simp at h
  obtain _ | ⟨a1, l⟩ := l
  · simp at h
  obtain _ | ⟨b, l⟩ := l
  · exact ⟨a0, a1, rfl⟩
  · simp at h
theorem list3 {α : Type} {l : List α} (h : l.length = 3) : ∃ a0 a1 a2, l = [a0, a1, a2] := by
  obtain _ | ⟨a0, l⟩ := l
  · simp at h
  obtain _ | ⟨a1, l⟩ := l
  · simp at h
  obtain _ | ⟨a2, l⟩ := l
  · simp at h
  obtain _ | ⟨b, l⟩ := l
  · exact ⟨a0, a1, a2, rfl⟩
  · simp at h
theorem list5 {α : Type} {l : List α} (h : l.length = 5) : ∃ a0 a1 a2 a3 a4, l = [a0, a1, a2, a3, a4] := by
  obtain _ | ⟨a0, l⟩ := l
  · simp at h
  obtain _ | ⟨a1, l⟩ := l
  · simp at h
  obtain _ | ⟨a2, l⟩ := l
  · simp at h
  obtain _ | ⟨a3, l⟩ := l
  · simp at h
  obtain _ | ⟨a4, l⟩ := l
  · simp at h
  obtain _ | ⟨b, l⟩ := l
  · exact ⟨a0, a1, a2, a3, a4, rfl⟩
  · simp at h
theorem list6 {α : Type} {l : List α} (h : l.length = 6) : ∃ a0 a1 a2 a3 a4 a5, l = [a0, a1, a2, a3, a4, a5] := by
  obtain _ | ⟨a0, l⟩ := l
  · simp at h
  obtain _ | ⟨a1, l⟩ := l
  · simp at h
  obtain _ | ⟨a2, l⟩ := l
  · simp at h
  obtain _ | ⟨a3, l⟩ := l
  · simp at h
  obtain _ | ⟨a4, l⟩ := l
  · simp at h
  obtain _ | ⟨a5, l⟩ := l
  · simp at h
  obtain _ | ⟨b, l⟩ := l
  · exact ⟨a0, a1, a2, a3, a4, a5, rfl⟩
  · simp at h
theorem list7 {α : Type} {l : List α} (h : l.length = 7) : ∃ a0 a1 a2 a3 a4 a5 a6, l = [a0, a1, a2, a3, a4, a5, a6] := by
  obtain _ | ⟨a0, l⟩ := l
  · simp at h
  obtain _ | ⟨a1, l⟩ := l
  · simp at h
  obtain _ | ⟨a2, l⟩ := l
  · simp at h
  obtain _ | ⟨a3, l⟩ := l
  · simp at h
  obtain _ | ⟨a4, l⟩ := l
  · simp at h
  obtain _ | ⟨a5, l⟩ := l
  · simp at h
  obtain _ | ⟨a6, l⟩ := l
  · simp at h
  obtain _ | ⟨b, l⟩ := l
  · exact ⟨a0, a1, a2, a3, a4, a5, a6, rfl⟩
  · simp at h
theorem list8 {α : Type} {l : List α} (h : l.length = 8) : ∃ a0 a1 a2 a3 a4 a5 a6 a7, l = [a0, a1, a2, a3, a4, a5, a6, a7] := by
  obtain _ | ⟨a0, l⟩ := l
  · simp at h
  obtain _ | ⟨a1, l⟩ := l
  · simp at h
  obtain _ | ⟨a2, l⟩ := l
  · simp at h
  obtain _ | ⟨a3, l⟩ := l
  · simp at h
  obtain _ | ⟨a4, l⟩ := l
  · simp at h
  obtain _ | ⟨a5, l⟩ := l
  · simp at h
  obtain _ | ⟨a6, l⟩ := l
  · simp at h
  obtain _ | ⟨a7, l⟩ := l
  · simp at h
  obtain _ | ⟨b, l⟩ := l
  · exact ⟨a0, a1, a2, a3, a4, a5, a6, a7, rfl⟩
  · simp at h
section
variable {H : Type} {enc : TypeId × Value → H} {w : World} {base : Nat} {sp : Nat → Bool} {held : Bool}
theorem c2 : Tryz.prog.cellsOf 2 = 1 := by kernel_rfl
theorem c3 : Tryz.prog.cellsOf 3 = 1 := by kernel_rfl
theorem c4 : Tryz.prog.cellsOf 4 = 1 := by kernel_rfl
theorem c5 : Tryz.prog.cellsOf 5 = 1 := by kernel_rfl
theorem c9 : Tryz.prog.cellsOf 9 = 1 := by kernel_rfl
theorem c23 : Tryz.prog.cellsOf 22 = 1 := by kernel_rfl
theorem c24 : Tryz.prog.cellsOf 23 = 1 := by kernel_rfl
theorem c25 : Tryz.prog.cellsOf 24 = 1 := by kernel_rfl
theorem c26 : Tryz.prog.cellsOf 25 = 1 := by kernel_rfl
theorem c28 : Tryz.prog.cellsOf 27 = 8 := by kernel_rfl
theorem c56 : Tryz.prog.cellsOf 46 = 2 := by kernel_rfl
theorem c57 : Tryz.prog.cellsOf 47 = 1 := by kernel_rfl
theorem c58 : Tryz.prog.cellsOf 48 = 1 := by kernel_rfl
theorem c60 : Tryz.prog.cellsOf 50 = 7 := by kernel_rfl
theorem c81 : Tryz.prog.cellsOf 71 = 1 := by kernel_rfl
theorem c83 : Tryz.prog.cellsOf 73 = 3 := by kernel_rfl
theorem c85 : Tryz.prog.cellsOf 75 = 5 := by kernel_rfl
theorem c86 : Tryz.prog.cellsOf 76 = 1 := by kernel_rfl
theorem c88 : Tryz.prog.cellsOf 78 = 1 := by kernel_rfl
theorem c99 : Tryz.prog.cellsOf 42 = 1 := by kernel_rfl
theorem c101 : Tryz.prog.cellsOf 44 = 7 := by kernel_rfl
theorem c116 : Tryz.prog.cellsOf 52 = 8 := by kernel_rfl
theorem agg_part {x : DataW H × List MemPlace} {ys : List (DataW H × List MemPlace)} (hx : x = (.agg (ys.map (·.1)), ys.flatMap (·.2))) {y : DataW H × List MemPlace} (hy : y ∈ ys) : Rows.uptoBulk y.1 ≤ Rows.uptoBulk x.1 := by
  rw [hx]
  simp only [Rows.uptoBulk]
  have := bulk_part (List.mem_map.2 ⟨y, hy, rfl⟩ : y.1 ∈ ys.map (·.1))
  omega
theorem str_size {s : ByteArray} {y : DataW H × List MemPlace} (h : y = (.lit (.string s.data.toList), [])) : s.size ≤ Rows.uptoBulk y.1 := by
  rw [h]
  simp only [Rows.uptoBulk]
  have : s.data.toList.length = s.size := by simp
  omega
theorem read_reg : Reads enc w base sp held 44 Reg.enc Flat Reg.fits (fun _ => 0) := by
  intro fuel cs x h hb
  obtain ⟨ys, n, rfl, hx, hlen, hyl, hf⟩ := DataW.trod_struct Tryz.underlying44 h
  rw [c101] at hlen
  obtain ⟨v0, v1, v2, v3, v4, v5, v6, rfl⟩ := list7 hlen
  obtain ⟨y0, y1, y2, y3, y4, y5, y6, rfl⟩ := list7 hyl
  have g0 := hf 0 _ rfl; have g1 := hf 1 _ rfl; have g2 := hf 2 _ rfl; have g3 := hf 3 _ rfl; have g4 := hf 4 _ rfl; have g5 := hf 5 _ rfl; have g6 := hf 6 _ rfl
  simp [c9, c3, c99, c4] at g0 g1 g2 g3 g4 g5 g6
  obtain ⟨s0, e0, q0, w0⟩ := DataW.trod_string Tryz.underlying9 g0
  obtain ⟨z1, e1, _, w1⟩ := DataW.trod_int Tryz.underlying3 g1
  obtain ⟨z2, e2, _, w2⟩ := DataW.trod_int Tryz.underlying3 g2
  obtain ⟨z3, e3, _, w3⟩ := DataW.trod_int Tryz.underlying3 g3
  obtain ⟨z4, e4, _, w4⟩ := DataW.trod_int Tryz.underlying3 g4
  obtain ⟨z5, e5, _, w5⟩ := DataW.trod_int Tryz.underlying42 g5
  obtain ⟨z6, e6, _⟩ := DataW.trod_bool Tryz.underlying4 g6
  simp at e0 e1 e2 e3 e4 e5 e6
  subst e0 e1 e2 e3 e4 e5 e6
  have k0 := agg_part hx (y := y0) (by simp)
  have k1 := str_size q0
  exact ⟨⟨s0, z1, z2, z3, z4, z5, z6⟩, rfl, trivial, ⟨by simp only; omega, i64_of w1, i64_of w2, i64_of w3, i64_of w4, (u8_of w5).1, (u8_of w5).2⟩, Nat.zero_le _⟩
theorem read_cm : Reads enc w base sp held 52 Cm.enc Flat Cm.fits (fun _ => 0) := by
  intro fuel cs x h hb
  obtain ⟨ys, n, rfl, hx, hlen, hyl, hf⟩ := DataW.trod_struct Tryz.underlying52 h
  rw [c116] at hlen
  obtain ⟨v0, v1, v2, v3, v4, v5, v6, v7, rfl⟩ := list8 hlen
  obtain ⟨y0, y1, y2, y3, y4, y5, y6, y7, rfl⟩ := list8 hyl
  have g0 := hf 0 _ rfl; have g1 := hf 1 _ rfl; have g2 := hf 2 _ rfl; have g3 := hf 3 _ rfl; have g4 := hf 4 _ rfl; have g5 := hf 5 _ rfl; have g6 := hf 6 _ rfl; have g7 := hf 7 _ rfl
  simp [c9, c3, c2, c4] at g0 g1 g2 g3 g4 g5 g6 g7
  obtain ⟨z0, e0, _, w0⟩ := DataW.trod_int Tryz.underlying2 g0
  obtain ⟨z1, e1, _, w1⟩ := DataW.trod_int Tryz.underlying2 g1
  obtain ⟨z2, e2, _, w2⟩ := DataW.trod_int Tryz.underlying3 g2
  obtain ⟨z3, e3, _, w3⟩ := DataW.trod_int Tryz.underlying3 g3
  obtain ⟨s4, e4, q4, _⟩ := DataW.trod_string Tryz.underlying9 g4
  obtain ⟨s5, e5, q5, _⟩ := DataW.trod_string Tryz.underlying9 g5
  obtain ⟨z6, e6, _⟩ := DataW.trod_bool Tryz.underlying4 g6
  obtain ⟨z7, e7, _⟩ := DataW.trod_bool Tryz.underlying4 g7
  simp at e0 e1 e2 e3 e4 e5 e6 e7
  subst e0 e1 e2 e3 e4 e5 e6 e7
  have k4 := agg_part hx (y := y4) (by simp)
  have k5 := agg_part hx (y := y5) (by simp)
  have l4 := str_size q4
  have l5 := str_size q5
  exact ⟨⟨z0, z1, z2, z3, s4, s5, z6, z7⟩, rfl, trivial, ⟨i64_of w0, i64_of w1, i64_of w2, i64_of w3, by simp only; omega, by simp only; omega⟩, Nat.zero_le _⟩
theorem read_run : Reads enc w base sp held 75 Run.enc Flat Run.fits (fun r => r.text.size) := by
  intro fuel cs x h hb
  obtain ⟨ys, n, rfl, hx, hlen, hyl, hf⟩ := DataW.trod_struct Tryz.underlying75 h
  rw [c85] at hlen
  obtain ⟨v0, v1, v2, v3, v4, rfl⟩ := list5 hlen
  obtain ⟨y0, y1, y2, rfl⟩ := list3 hyl
  have g0 := hf 0 _ rfl; have g1 := hf 1 _ rfl; have g2 := hf 2 _ rfl
  simp [c9, c83] at g0 g1 g2
  obtain ⟨s0, e0, q0, _⟩ := DataW.trod_string Tryz.underlying9 g0
  obtain ⟨s4, e4, q4, _⟩ := DataW.trod_string Tryz.underlying9 g2
  obtain ⟨us, n', rfl, hx', hlen', hyl', hf'⟩ := DataW.trod_struct Tryz.underlying73 g1
  obtain ⟨u0, u1, u2, rfl⟩ := list3 hyl'
  have p0 := hf' 0 _ rfl; have p1 := hf' 1 _ rfl; have p2 := hf' 2 _ rfl
  simp [c81, c4] at p0 p1 p2
  obtain ⟨z1, e1, _, w1⟩ := DataW.trod_int Tryz.underlying71 p0
  obtain ⟨z2, e2, _⟩ := DataW.trod_bool Tryz.underlying4 p1
  obtain ⟨z3, e3, _⟩ := DataW.trod_bool Tryz.underlying4 p2
  simp at e0 e1 e2 e3 e4
  subst e0 e1 e2 e3 e4
  have k0 := agg_part hx (y := y0) (by simp)
  have k2 := agg_part hx (y := y2) (by simp)
  have l0 := str_size q0
  have l2 := str_size q4
  exact ⟨⟨s0, z1, z2, z3, s4⟩, rfl, trivial, ⟨by simp only; omega, by simp only; omega, (u8_of w1).1, (u8_of w1).2⟩, by simp only; omega⟩
theorem sumText_eq : ∀ l : List Run, (l.map fun r => r.text.size).sum = sumText l
  | [] => rfl
  | r :: l => by simp [sumText, sumText_eq l]
theorem read_row : Reads enc w base sp held 78 Row.enc Row.lies Row.fits (fun _ => 0) := by
  intro fuel cs x h hb
  obtain ⟨ys, n, rfl, hx, hlen, hyl, hf⟩ := DataW.trod_struct Tryz.underlying78 h
  rw [c88] at hlen
  obtain ⟨v0, rfl⟩ := list1 hlen
  obtain ⟨y0, rfl⟩ := list1 hyl
  have g0 := hf 0 _ rfl
  simp [c86] at g0
  have k0 := agg_part hx (y := y0) (by simp)
  obtain ⟨a, xs, cap, e, hS, hF, hL, hM⟩ := reads_slice Tryz.underlying76 c85 (by decide) (fun _ => rfl) read_run n [v0] y0 g0 (by omega)
  simp at e
  subst e
  rw [sumText_eq] at hM
  exact ⟨⟨a, cap, xs⟩, rfl, hS, ⟨hF, by simp only; omega, by simp only; omega⟩, Nat.zero_le _⟩
theorem read_ev : Reads enc w base sp held 50 Ev.enc Ev.lies Ev.fits (fun _ => 0) := by
  intro fuel cs x h hb
  obtain ⟨ys, n, rfl, hx, hlen, hyl, hf⟩ := DataW.trod_struct Tryz.underlying50 h
  rw [c60] at hlen
  obtain ⟨v0, v1, v2, v3, v4, v5, v6, rfl⟩ := list7 hlen
  obtain ⟨y0, y1, y2, y3, y4, y5, rfl⟩ := list6 hyl
  have g0 := hf 0 _ rfl; have g1 := hf 1 _ rfl; have g2 := hf 2 _ rfl; have g3 := hf 3 _ rfl; have g4 := hf 4 _ rfl; have g5 := hf 5 _ rfl
  simp [c2, c56, c9, c57, c58] at g0 g1 g2 g3 g4 g5
  obtain ⟨z0, e0, _, w0⟩ := DataW.trod_int Tryz.underlying2 g0
  obtain ⟨us, n', rfl, hx', hlen', hyl', hf'⟩ := DataW.trod_struct Tryz.underlying46 g1
  obtain ⟨u0, u1, rfl⟩ := list2 hyl'
  have p0 := hf' 0 _ rfl; have p1 := hf' 1 _ rfl
  simp [c2] at p0 p1
  obtain ⟨z1, e1, _, w1⟩ := DataW.trod_int Tryz.underlying2 p0
  obtain ⟨z2, e2, _, w2⟩ := DataW.trod_int Tryz.underlying2 p1
  obtain ⟨s3, e3, q3, _⟩ := DataW.trod_string Tryz.underlying9 g2
  obtain ⟨z4, e4, _, w4⟩ := DataW.trod_int Tryz.underlying47 g3
  obtain ⟨s5, e5, q5, _⟩ := DataW.trod_string Tryz.underlying9 g4
  have k2 := agg_part hx (y := y2) (by simp)
  have k4 := agg_part hx (y := y4) (by simp)
  have k5 := agg_part hx (y := y5) (by simp)
  have l3 := str_size q3
  have l5 := str_size q5
  obtain ⟨a, xs, cap, e6, hS, hF, hL, hM⟩ := reads_slice Tryz.underlying48 c88 (by decide) (fun _ => rfl) read_row _ [v6] y5 g5 (by omega)
  simp at e0 e1 e2 e3 e4 e5 e6
  subst e0 e1 e2 e3 e4 e5 e6
  exact ⟨⟨z0, z1, z2, s3, z4, s5, a, cap, xs⟩, rfl, hS, ⟨i64_of w0, i64_of w1, i64_of w2, by simp only; omega, (u8_of w4).1, (u8_of w4).2, by simp only; omega, hF, by simp only; omega⟩, Nat.zero_le _⟩
theorem read_doc : Reads enc w base sp held 27 Doc.enc (fun w d => d.lies w) Doc.fits (fun _ => 0) := by
  intro fuel cs x h hb
  obtain ⟨ys, n, rfl, hx, hlen, hyl, hf⟩ := DataW.trod_struct Tryz.underlying27 h
  rw [c28] at hlen
  obtain ⟨v0, v1, v2, v3, v4, v5, v6, v7, rfl⟩ := list8 hlen
  obtain ⟨y0, y1, y2, y3, y4, y5, y6, y7, rfl⟩ := list8 hyl
  have g0 := hf 0 _ rfl; have g1 := hf 1 _ rfl; have g2 := hf 2 _ rfl; have g3 := hf 3 _ rfl; have g4 := hf 4 _ rfl; have g5 := hf 5 _ rfl; have g6 := hf 6 _ rfl; have g7 := hf 7 _ rfl
  simp [c9, c23, c4, c2, c24, c25, c26] at g0 g1 g2 g3 g4 g5 g6 g7
  obtain ⟨s0, e0, q0, _⟩ := DataW.trod_string Tryz.underlying9 g0
  obtain ⟨s1, e1, q1, _⟩ := DataW.trod_string Tryz.underlying9 g1
  obtain ⟨z2, e2, _, w2⟩ := DataW.trod_int Tryz.underlying22 g2
  obtain ⟨z3, e3, _⟩ := DataW.trod_bool Tryz.underlying4 g3
  obtain ⟨z4, e4, _, w4⟩ := DataW.trod_int Tryz.underlying2 g4
  have k0 := agg_part hx (y := y0) (by simp)
  have k1 := agg_part hx (y := y1) (by simp)
  have k5 := agg_part hx (y := y5) (by simp)
  have k6 := agg_part hx (y := y6) (by simp)
  have k7 := agg_part hx (y := y7) (by simp)
  have l0 := str_size q0
  have l1 := str_size q1
  obtain ⟨ra, regs, rc, e5, hS5, hF5, hL5, _⟩ := reads_slice Tryz.underlying23 c101 (by decide) (fun _ => rfl) read_reg _ [v5] y5 g5 (by omega)
  obtain ⟨ea, evs, ec, e6, hS6, hF6, hL6, _⟩ := reads_slice Tryz.underlying24 c60 (by decide) (fun _ => rfl) read_ev _ [v6] y6 g6 (by omega)
  obtain ⟨ca, cms, cc, e7, hS7, hF7, hL7, _⟩ := reads_slice Tryz.underlying25 c116 (by decide) (fun _ => rfl) read_cm _ [v7] y7 g7 (by omega)
  simp at e0 e1 e2 e3 e4 e5 e6 e7
  subst e0 e1 e2 e3 e4 e5 e6 e7
  exact ⟨⟨s0, s1, z2, z3, z4, ra, rc, regs, ea, ec, evs, ca, cc, cms⟩, rfl, ⟨hS5, hS6, hS7⟩, ⟨by simp only; omega, by simp only; omega, (u8_of w2).1, (u8_of w2).2, i64_of w4, hF5, by simp only; omega, hF6, by simp only; omega, hF7, by simp only; omega⟩, Nat.zero_le _⟩
end
end Go.Proofs.YtnlnmbcaongehaaGreatDoor
namespace Go.Proofs.YtnlnmbcaongehaaGreatDoor.diffSeat
open Go.Shelf Go.ChangeShapes Go.WideShapes Go.ChangeAt Go.RowKit Go.Lib
theorem own : ownKnob Tryz.prog.godebug = none := by kernel_rfl
theorem laidOut : laidOutB Tryz.prog = true := by kernel_rfl
def tab32 : List Int := [0, 1, 28, 2, 29, 14, 24, 3, 30, 22, 20, 15, 25, 17, 4, 8, 31, 27, 13, 23, 21, 19, 16, 7, 26, 12, 18, 6, 11, 5, 10, 9]
def tab64 : List Int := [0, 1, 56, 2, 57, 49, 28, 3, 61, 58, 42, 50, 38, 29, 17, 4, 62, 47, 59, 36, 45, 43, 51, 22, 53, 39, 33, 30, 24, 18, 12, 5, 63, 55, 48, 27, 60, 41, 37, 16, 46, 35, 44, 21, 52, 32, 23, 11, 54, 26, 40, 15, 34, 20, 31, 10, 25, 14, 19, 9, 13, 8, 7, 6]
/-- The world of the witness: the tables hold what their initialisers lay. -/
noncomputable def laidWorld (os : Os) : World :=
  let w0 := World.holding Tryz.prog os ⟨#[], #[], []⟩
  let put (h : Array Obj) (g : Nat) (cs : Array Value) : Array Obj := h.modify g fun
    | .cells _ t frozen => .cells cs t frozen
    | o => o
  let h1 := put w0.heap 0 (Lib.firstTab.map fun z => Value.int .u8 z).toArray
  let h2 := put h1 1 ((List.range 16).flatMap fun i => [Value.int .u8 (Lib.accLo i), Value.int .u8 (Lib.accHi i)]).toArray
  let h3 := put h2 2 (Lib.pow10Tab.map fun z => Value.int .u64 z).toArray
  let h4 := put h3 4 (tab32.map fun z => Value.int .u8 z).toArray
  let h5 := put h4 5 (tab64.map fun z => Value.int .u8 z).toArray
  { w0 with heap := h5 }
def zd : Array Value := #[.string ⟨#[]⟩, .string ⟨#[]⟩, .int .u8 0, .bool false, .int .i64 0, .slice none 0 0, .slice none 0 0, .slice none 0 0]
theorem laid_met (os : Os) (args : Array Value) : laidMet Tryz.prog Rows.diffListsUptoRow.laid ((laidWorld os).forCall (fun _ _ => 0) ⟨#[], args, []⟩).memory :=
  laidMet_of_run' 8 (by kernel_rfl) (by kernel_rfl)
theorem first_eq : Rows.laid_unicode_utf8_first = Lib.firstData := by kernel_rfl
theorem accept_eq : (Rows.laid_unicode_utf8_acceptRanges : DataW Unit) = Lib.acceptData := by kernel_rfl
theorem pow_eq : (Rows.laid_internal_strconv_uint64pow10 : DataW Unit) = Lib.tabData .u64 Lib.pow10Tab := by kernel_rfl
theorem laid_list : Rows.diffListsUptoRow.laid = [("math/bits.deBruijn32tab", Rows.laid_math_bits_deBruijn32tab), ("math/bits.deBruijn64tab", Rows.laid_math_bits_deBruijn64tab), ("internal/strconv.uint64pow10", Rows.laid_internal_strconv_uint64pow10), ("unicode/utf8.acceptRanges", Rows.laid_unicode_utf8_acceptRanges), ("unicode/utf8.first", Rows.laid_unicode_utf8_first)] := rfl
theorem max_of {W : World} (h : W.ShapedOpen Tryz.prog) : ∃ m, W.cell? ⟨3, 0, none⟩ = some (.int .i64 m) :=
  Go.Proofs.cell_of_shapedOpen_int (zero := #[.int .i64 0]) (t := 3) h (of_decide_eq_true (by kernel_rfl)) (by kernel_rfl) rfl (by kernel_rfl) (by kernel_rfl) Tryz.underlying3
theorem env_of {W : World} (hL : laidMetH Tryz.prog Rows.diffListsUptoRow.laid W) (hS : W.ShapedOpen Tryz.prog) : Aw W := by
  have hL' : laidMet Tryz.prog Rows.diffListsUptoRow.laid W := by
    rw [Go.MakeChecks.laidMetH_plain _ _ _ (by kernel_rfl)] at hL
    exact hL
  rw [laid_list, first_eq, accept_eq, pow_eq] at hL'
  have h3 := Go.laidMet.tail (Go.laidMet.tail hL')
  have h4 := Go.laidMet.tail h3
  exact ⟨⟨utf8Tabs_of_readsT (U8Types.of196 Tryz.lays196) ⟨by kernel_rfl, by kernel_rfl, by kernel_rfl, by kernel_rfl, by kernel_rfl, by kernel_rfl, by kernel_rfl⟩ (Lib.laidMet.reads h4 (List.Mem.tail _ (List.Mem.head _))) (Lib.laidMet.reads h4 (List.Mem.head _)), max_of hS⟩, Lib.tabIs_of_head (g := 2) (t := 337) (n := 20) (by kernel_rfl) (by kernel_rfl) Tryz.underlying337 Tryz.underlying259 (by kernel_rfl) (by kernel_rfl) h3⟩
end Go.Proofs.YtnlnmbcaongehaaGreatDoor.diffSeat
namespace Go.Proofs.YtnlnmbcaongehaaGreatDoor
open Go.RowKit
theorem rowsFrom_like : ∀ xs ys : List Row, xs.map Row.runs = ys.map Row.runs → rowsFrom xs = rowsFrom ys
  | [], [], _ => rfl
  | [], y :: l, h => by simp at h
  | x :: l, [], h => by simp at h
  | x :: l, y :: m, h => by
    simp only [List.map_cons, List.cons.injEq] at h
    rw [rowsFrom, rowsFrom, h.1, rowsFrom_like l m h.2]
theorem lensOf_like {xs ys : List Row} (h : xs.map Row.runs = ys.map Row.runs) : lensOf xs = lensOf ys := by
  have e : ∀ zs : List Row, lensOf zs = (zs.map Row.runs).map rowLen := fun zs => by unfold lensOf; rw [List.map_map]; rfl
  rw [e, e, h]
theorem len_like {α β : Type} {f : α → β} {xs ys : List α} (h : xs.map f = ys.map f) : xs.length = ys.length := by
  have := congrArg List.length h
  simpa using this
theorem evErr_like {x y : Ev} (h : x.c = y.c) (regs : List Reg) : evErr x regs = evErr y regs := by
  obtain ⟨id, inn, out, reg, kind, sp, a, c, rows⟩ := x
  obtain ⟨id', inn', out', reg', kind', sp', a', c', rows'⟩ := y
  simp only [Ev.c, EvC.mk.injEq] at h
  obtain ⟨rfl, rfl, rfl, rfl, rfl, rfl, hr⟩ := h
  unfold evErr evHead rowsErr
  simp only [len_like hr, rowsFrom_like _ _ hr, lensOf_like hr]
theorem lessB_like {x y x' y' : Ev} (h : x.c = x'.c) (h' : y.c = y'.c) : lessB x y = lessB x' y' := by
  have h1 : x.id = x'.id := congrArg EvC.id h
  have h2 : x.inn = x'.inn := congrArg EvC.inn h
  have h3 : y.id = y'.id := congrArg EvC.id h'
  have h4 : y.inn = y'.inn := congrArg EvC.inn h'
  unfold lessB
  rw [h1, h2, h3, h4]
/-- Of two lists of events with the same contents, what lies at one place. -/
theorem at_like {xs ys : List Ev} (h : xs.map Ev.c = ys.map Ev.c) (k : Nat) : (xs[k]? = none ∧ ys[k]? = none) ∨ ∃ x y, xs[k]? = some x ∧ ys[k]? = some y ∧ x.c = y.c := by
  have e : (xs.map Ev.c)[k]? = (ys.map Ev.c)[k]? := by rw [h]
  rw [List.getElem?_map, List.getElem?_map] at e
  cases hx : xs[k]? with
  | none =>
    rw [hx] at e
    cases hy : ys[k]? with
    | none => exact .inl ⟨rfl, rfl⟩
    | some y => rw [hy] at e; simp at e
  | some x =>
    rw [hx] at e
    cases hy : ys[k]? with
    | none => rw [hy] at e; simp at e
    | some y =>
      rw [hy] at e
      exact .inr ⟨x, y, rfl, rfl, by simpa using e⟩
theorem seenEv_like {xs ys : List Ev} (h : xs.map Ev.c = ys.map Ev.c) : ∀ k, seenEv xs k = seenEv ys k
  | 0 => rfl
  | k + 1 => by
    funext z
    have ih := seenEv_like h k
    simp only [seenEv]
    rcases at_like h k with ⟨h1, h2⟩ | ⟨x, y, h1, h2, h3⟩
    · rw [h1, h2, ih]
    · have hid : x.id = y.id := congrArg EvC.id h3
      rw [h1, h2]
      simp only [hid, ih]
theorem evLate_like {xs ys : List Ev} (h : xs.map Ev.c = ys.map Ev.c) (k : Nat) {x y : Ev} (hxy : x.c = y.c) : evLate (aheadOf xs k) x = evLate (aheadOf ys k) y := by
  cases k with
  | zero => rfl
  | succ k =>
    show evLate xs[k]? x = evLate ys[k]? y
    rcases at_like h k with ⟨h1, h2⟩ | ⟨p, q, h1, h2, h3⟩
    · rw [h1, h2]
      rfl
    · rw [h1, h2]
      simp only [evLate, lessB_like h3 hxy]
theorem evsGo_like {xs ys : List Ev} (h : xs.map Ev.c = ys.map Ev.c) (regs : List Reg) (last : Int) : ∀ n k, evsGo regs last xs k n = evsGo regs last ys k n
  | 0, k => rfl
  | n + 1, k => by
    have ih := evsGo_like h regs last n (k + 1)
    rw [evsGo, evsGo]
    rcases at_like h k with ⟨h1, h2⟩ | ⟨x, y, h1, h2, h3⟩
    · rw [h1, h2]
    · have hid : x.id = y.id := congrArg EvC.id h3
      have he : evStep regs last (seenEv xs k) (aheadOf xs k) x = evStep regs last (seenEv ys k) (aheadOf ys k) y := by
        unfold evStep
        rw [evErr_like h3, hid, evLate_like h k h3, seenEv_like h k]
      rw [h1, h2]
      simp only [he, ih]
theorem evLen_like {xs ys : List Row} (h : xs.map Row.runs = ys.map Row.runs) : evLen xs = evLen ys := by
  unfold evLen
  rw [lensOf_like h, len_like h]
theorem cmErr_like {xs ys : List Ev} (h : xs.map Ev.c = ys.map Ev.c) (last : Int) (f : Int → Option Nat) (p : Option Cm) (c : Cm) : cmErr last f xs p c = cmErr last f ys p c := by
  have ha : anchErr last f xs c = anchErr last f ys c := by
    unfold anchErr
    cases f c.ev with
    | none => rfl
    | some i =>
      have : evLen ((xs[i]?.map Ev.rows).getD []) = evLen ((ys[i]?.map Ev.rows).getD []) := by
        rcases at_like h i with ⟨h1, h2⟩ | ⟨x, y, h1, h2, h3⟩
        · rw [h1, h2]
        · rw [h1, h2]
          exact evLen_like (congrArg EvC.rows h3)
      simp only [this]
  unfold cmErr
  rw [ha]
theorem cmsFrom_like {xs ys : List Ev} (h : xs.map Ev.c = ys.map Ev.c) (last : Int) (f : Int → Option Nat) : ∀ (cms : List Cm) (p : Option Cm), cmsFrom last f xs p cms = cmsFrom last f ys p cms
  | [], p => rfl
  | c :: l, p => by rw [cmsFrom, cmsFrom, cmErr_like h, cmsFrom_like h last f l]
theorem docErr_like {a b : Doc} (h : a.c = b.c) : docErr a = docErr b := by
  obtain ⟨title, lang, rate, drop, last, ra, rc, regs, ea, ec, evs, ca, cc, cms⟩ := a
  obtain ⟨title', lang', rate', drop', last', ra', rc', regs', ea', ec', evs', ca', cc', cms'⟩ := b
  simp only [Doc.c, Doc.hd, DocC.mk.injEq, Hd.mk.injEq] at h
  obtain ⟨⟨rfl, rfl, rfl, rfl, rfl⟩, rfl, he, rfl⟩ := h
  have hl := len_like he
  have hc : cmsErr last (seenEv evs evs.length) evs cms = cmsErr last (seenEv evs' evs'.length) evs' cms := by
    unfold cmsErr
    rw [hl, seenEv_like he, cmsFrom_like he]
  have hr : restErr regs last evs cms 0 = restErr regs last evs' cms 0 := by
    unfold restErr
    rw [evsGo_like he, hc, hl]
  unfold docErr
  simp only [hl, hr]
theorem hd_eq {x y : Hd} (h : hdEq x y = true) : x = y := by
  obtain ⟨a, b, c, d, e⟩ := x
  obtain ⟨a', b', c', d', e'⟩ := y
  simp only [hdEq, Bool.and_eq_true, beq_iff_eq] at h
  obtain ⟨⟨⟨⟨h1, h2⟩, rfl⟩, rfl⟩, rfl⟩ := h
  obtain rfl := ba_ext h1
  obtain rfl := ba_ext h2
  rfl
theorem reg_eq {x y : Reg} (h : regEq x y = true) : x = y := by
  obtain ⟨a, b, c, d, e, f, g⟩ := x
  obtain ⟨a', b', c', d', e', f', g'⟩ := y
  simp only [regEq, Bool.and_eq_true, beq_iff_eq] at h
  obtain ⟨⟨⟨⟨⟨⟨h1, rfl⟩, rfl⟩, rfl⟩, rfl⟩, rfl⟩, rfl⟩ := h
  obtain rfl := ba_ext h1
  rfl
theorem cm_eq {x y : Cm} (h : cmEq x y = true) : x = y := by
  obtain ⟨a, b, c, d, e, f, g, i⟩ := x
  obtain ⟨a', b', c', d', e', f', g', i'⟩ := y
  simp only [cmEq, Bool.and_eq_true, beq_iff_eq] at h
  obtain ⟨⟨⟨⟨⟨⟨⟨rfl, rfl⟩, rfl⟩, rfl⟩, h1⟩, h2⟩, rfl⟩, rfl⟩ := h
  obtain rfl := ba_ext h1
  obtain rfl := ba_ext h2
  rfl
theorem run_eq {x y : Run} (h : runEq x y = true) : x = y := by
  obtain ⟨a, b, c, d, e⟩ := x
  obtain ⟨a', b', c', d', e'⟩ := y
  simp only [runEq, Bool.and_eq_true, beq_iff_eq] at h
  obtain ⟨⟨h1, ⟨rfl, rfl⟩, rfl⟩, h2⟩ := h
  obtain rfl := ba_ext h1
  obtain rfl := ba_ext h2
  rfl
theorem allEq_eq {α : Type} (eq : α → α → Bool) (h : ∀ x y, eq x y = true → x = y) : ∀ xs ys : List α, Lib.allEq eq xs ys = true → xs = ys
  | [], [], _ => rfl
  | [], y :: l, h' => by simp [Lib.allEq] at h'
  | x :: l, [], h' => by simp [Lib.allEq] at h'
  | x :: l, y :: m, h' => by
    simp only [Lib.allEq, Bool.and_eq_true] at h'
    rw [h x y h'.1, allEq_eq eq h l m h'.2]
theorem rows_eq : ∀ xs ys : List Row, rowsEq xs ys = true → xs.map Row.runs = ys.map Row.runs
  | [], [], _ => rfl
  | [], y :: l, h => by simp [rowsEq, Lib.allEq] at h
  | x :: l, [], h => by simp [rowsEq, Lib.allEq] at h
  | x :: l, y :: m, h => by
    unfold rowsEq at h
    simp only [Lib.allEq, Bool.and_eq_true] at h
    have h1 : x.runs = y.runs := allEq_eq _ (fun a b => run_eq) _ _ h.1
    rw [List.map_cons, List.map_cons, h1, rows_eq l m h.2]
theorem ev_eq {x y : Ev} (h : evEq x y = true) : x.c = y.c := by
  obtain ⟨id, inn, out, reg, kind, sp, a, c, rows⟩ := x
  obtain ⟨id', inn', out', reg', kind', sp', a', c', rows'⟩ := y
  simp only [evEq, Bool.and_eq_true, beq_iff_eq] at h
  obtain ⟨⟨⟨⟨⟨rfl, rfl, rfl⟩, h1⟩, rfl⟩, h2⟩, hr⟩ := h
  obtain rfl := ba_ext h1
  obtain rfl := ba_ext h2
  simp only [Ev.c, rows_eq _ _ hr]
/-- The order of a document's lists. -/
def EvC.lt (x y : EvC) : Prop := x.inn < y.inn ∨ (x.inn = y.inn ∧ x.id < y.id)
structure DocOk (c : DocC) : Prop where
  regs : c.regs.Pairwise fun x y => baLt x.name y.name
  cms : c.cms.Pairwise fun x y => x.id < y.id
  ids : c.evs.Pairwise fun x y => x.id ≠ y.id
  ord : c.evs.Pairwise EvC.lt
theorem baLt_irrefl (a : ByteArray) : ¬ baLt a a := List.lt_irrefl _
theorem baLt_trans {a b c : ByteArray} (h : baLt a b) (h' : baLt b c) : baLt a c := List.lt_trans h h'
theorem baLt_total {a b : ByteArray} (h1 : ¬ baLt a b) (h2 : ¬ a = b) : baLt b a := bs_total h1 fun h => h2 (ba_ext (by rw [Lib.toList_data, Lib.toList_data, h]))
theorem listFrom_asc : ∀ (xs : List Reg) (p : Option ByteArray), listFrom p xs = 0 → (∀ q, p = some q → ∀ x ∈ xs, baLt q x.name) ∧ xs.Pairwise fun x y => baLt x.name y.name
  | [], p, _ => ⟨fun q _ x hx => by simp at hx, List.Pairwise.nil⟩
  | x :: l, p, h => by
    rw [listFrom] at h
    split at h
    · rename_i hne
      rw [h] at hne
      cases hne
    · rename_i hne
      have h0 : stepErr p x = 0 := by simpa using hne
      have ih := listFrom_asc l _ h
      have hx := ih.1 x.name rfl
      refine ⟨fun q hq y hy => ?_, List.pairwise_cons.2 ⟨hx, ih.2⟩⟩
      subst hq
      have hqx : baLt q x.name := by
        unfold stepErr at h0
        split at h0
        · rename_i h1
          rw [h0] at h1
          cases h1
        · simp only at h0
          split at h0
          · cases h0
          · rename_i h2
            split at h0
            · cases h0
            · rename_i h3
              exact baLt_total (fun h => h3 ((bl_lt _ _).2 h)) (fun h => h2 (by rw [h]; simp))
      rcases List.mem_cons.1 hy with rfl | hy
      · exact hqx
      · exact baLt_trans hqx (hx y hy)
theorem cmsFrom_asc (last : Int) (f : Int → Option Nat) (evs : List Ev) : ∀ (xs : List Cm) (p : Option Cm), cmsFrom last f evs p xs = 0 → (∀ q, p = some q → ∀ x ∈ xs, q.id < x.id) ∧ xs.Pairwise fun x y => x.id < y.id
  | [], p, _ => ⟨fun q _ x hx => by simp at hx, List.Pairwise.nil⟩
  | x :: l, p, h => by
    rw [cmsFrom] at h
    split at h
    · rename_i hne
      rw [h] at hne
      cases hne
    · rename_i hne
      have h0 : cmErr last f evs p x = 0 := by simpa using hne
      have ih := cmsFrom_asc last f evs l _ h
      have hx := ih.1 x rfl
      refine ⟨fun q hq y hy => ?_, List.pairwise_cons.2 ⟨hx, ih.2⟩⟩
      subst hq
      have hqx : q.id < x.id := by
        unfold cmErr at h0
        split at h0
        · cases h0
        · split at h0
          · cases h0
          · rename_i h2
            simp only [notBehind, decide_eq_true_eq] at h2
            omega
      rcases List.mem_cons.1 hy with rfl | hy
      · exact hqx
      · have := hx y hy
        omega
theorem steps_pairwise {α : Type} {R : α → α → Prop} (ht : ∀ a b c, R a b → R b c → R a c) : ∀ xs : List α, (∀ k x y, xs[k]? = some x → xs[k + 1]? = some y → R x y) → xs.Pairwise R
  | [], _ => List.Pairwise.nil
  | [x], _ => by simp
  | x :: y :: l, h => by
    have ih := steps_pairwise ht (y :: l) fun k a b ha hb => h (k + 1) a b (by simpa using ha) (by simpa using hb)
    have hxy := h 0 x y rfl rfl
    refine List.pairwise_cons.2 ⟨fun z hz => ?_, ih⟩
    rcases List.mem_cons.1 hz with rfl | hz
    · exact hxy
    · exact ht _ _ _ hxy (List.rel_of_pairwise_cons ih hz)
theorem evsGo_all (regs : List Reg) (last : Int) (evs : List Ev) : ∀ n k, evsGo regs last evs k n = 0 → ∀ j x, k ≤ j → j < k + n → evs[j]? = some x → evStep regs last (seenEv evs j) (aheadOf evs j) x = 0
  | 0, k, _, j, x, h1, h2, _ => by omega
  | n + 1, k, h, j, x, h1, h2, hx => by
    rw [evsGo] at h
    have hk : k < evs.length := by have := (List.getElem?_eq_some_iff.1 hx).1; omega
    rw [List.getElem?_eq_getElem hk] at h
    simp only at h
    split at h
    · rename_i hne
      rw [h] at hne
      cases hne
    · rename_i hne
      by_cases hj : j = k
      · subst hj
        rw [List.getElem?_eq_getElem hk] at hx
        obtain rfl : evs[j] = x := by simpa using hx
        simpa using hne
      · exact evsGo_all regs last evs n (k + 1) h j x (by omega) (by omega) hx
theorem evStep_zero {regs : List Reg} {last : Int} {f : Int → Option Nat} {prev : Option Ev} {x : Ev} (h : evStep regs last f prev x = 0) : evErr x regs = 0 ∧ x.id ≤ last ∧ (f x.id).isSome = false ∧ evLate prev x = false := by
  rcases evStep_cases regs last f prev x _ rfl with ⟨h1, h2⟩ | ⟨h1, ⟨h2, h3⟩ | ⟨h2, ⟨h3, h4⟩ | ⟨h3, ⟨h4, h5⟩ | ⟨h4, h5⟩⟩⟩⟩
  · rw [← h2, h] at h1; cases h1
  · rw [h] at h3; cases h3
  · rw [h] at h4; cases h4
  · rw [h] at h5; cases h5
  · exact ⟨h1, h2, h4, h3⟩
/-- The parts of a document's error, where it is none. -/
theorem doc_parts {d : Doc} (h : docErr d = 0) : headErr d.title d.lang d.rate d.drop d.last = 0 ∧ listErr d.regs = 0 ∧ d.evs.length ≤ 400 ∧ (∀ j x, d.evs[j]? = some x → evStep d.regs d.last (seenEv d.evs j) (aheadOf d.evs j) x = 0) ∧ cmsErr d.last (seenEv d.evs d.evs.length) d.evs d.cms = 0 := by
  unfold docErr at h
  split at h
  · rename_i hne; rw [h] at hne; cases hne
  · rename_i hhd
    split at h
    · rename_i hne; rw [h] at hne; cases hne
    · rename_i hli
      split at h
      · cases h
      · rename_i h4
        unfold restErr at h
        split at h
        · rename_i hne; rw [h] at hne; cases hne
        · rename_i hne
          refine ⟨by simpa using hhd, by simpa using hli, by omega, fun j x hx => ?_, h⟩
          exact evsGo_all d.regs d.last d.evs _ 0 (by simpa using hne) j x (Nat.zero_le _) (by have := (List.getElem?_eq_some_iff.1 hx).1; omega) hx
theorem doc_lens {d : Doc} (h : docErr d = 0) : d.regs.length ≤ 16 ∧ d.evs.length ≤ 400 ∧ d.cms.length ≤ 64 := by
  obtain ⟨_, h2, h3, _, h5⟩ := doc_parts h
  refine ⟨?_, h3, ?_⟩
  · unfold listErr at h2
    split at h2
    · cases h2
    · omega
  · unfold cmsErr at h5
    split at h5
    · cases h5
    · omega
theorem lessB_lt (x y : Ev) : lessB x y = true ↔ x.c.lt y.c := by
  show ltOf cmpEv x y = true ↔ _
  rw [cmpEv_neg]
  simp [EvC.lt, Ev.c]
theorem docOk {d : Doc} (h : docErr d = 0) : DocOk d.c := by
  obtain ⟨_, h2, h3, h4, h5⟩ := doc_parts h
  refine ⟨?_, ?_, ?_, ?_⟩
  · unfold listErr at h2
    split at h2
    · cases h2
    · exact (listFrom_asc _ _ h2).2
  · unfold cmsErr at h5
    split at h5
    · cases h5
    · exact (cmsFrom_asc _ _ _ _ _ h5).2
  · show (d.evs.map Ev.c).Pairwise _
    rw [List.pairwise_map, List.pairwise_iff_getElem]
    intro i j hi hj hij he
    have := (evStep_zero (h4 j _ (List.getElem?_eq_getElem hj))).2.2.1
    rw [seen_hit d.evs j d.evs[j].id i d.evs[i] hij (List.getElem?_eq_getElem hi) he] at this
    cases this
  · show (d.evs.map Ev.c).Pairwise _
    rw [List.pairwise_map]
    refine steps_pairwise (fun a b c h1 h2 => ?_) _ fun k x y hx hy => ?_
    · simp only [EvC.lt] at *
      omega
    · have := (evStep_zero (h4 (k + 1) y hy)).2.2.2
      rw [aheadOf, hx] at this
      simp only [evLate, Bool.not_eq_false'] at this
      exact (lessB_lt x y).1 this
end Go.Proofs.YtnlnmbcaongehaaGreatDoor
