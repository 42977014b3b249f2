/- How the readings of the arguments give links and documents in memory. -/
import Derived.Test.YtdgakmpopgpijaaGreatDoorRows
import Derived.Test.YtdgakmpopgpijaaGreatDoorLawStays
import Derived.Deep.Slices
import Derived.Deep.Fields
import Derived.ChangeSame
set_option linter.unusedVariables false
namespace Go.Proofs.YtdgakmpopgpijaaGreatDoor
open Go.RowKit Go.ChangeShapes Go.WideShapes Go.Deep

theorem bulk_one {H : Type} (d : DataW H) : 1 ≤ Rows.uptoBulk d := by
  cases d with
  | lit l => cases l <;> simp [Rows.uptoBulk]
  | nil => simp [Rows.uptoBulk]
  | ptr d => simp [Rows.uptoBulk]
  | slice elems spare => simp [Rows.uptoBulk]
  | agg parts => simp [Rows.uptoBulk]
  | iface t d => simp [Rows.uptoBulk]
  | map entries => simp [Rows.uptoBulk]
  | held h => simp [Rows.uptoBulk]
theorem bulk_part {H : Type} {d : DataW H} {l : List (DataW H)} (h : d ∈ l) : Rows.uptoBulk d ≤ Rows.uptoBulkAll l := by
  induction l with
  | nil => cases h
  | cons x r ih =>
    simp only [Rows.uptoBulkAll]
    cases List.mem_cons.1 h with
    | inl e => subst e; omega
    | inr e => have := ih e; omega
theorem bulk_sum {H : Type} (l : List (DataW H)) : Rows.uptoBulkAll l = (l.map Rows.uptoBulk).sum := by
  induction l with
  | nil => simp [Rows.uptoBulkAll]
  | cons x r ih => simp [Rows.uptoBulkAll, ih]

theorem build {α : Type} {Q : Nat → α → Prop} : ∀ n, (∀ i, i < n → ∃ a, Q i a) → ∃ xs : List α, xs.length = n ∧ ∀ i x, xs[i]? = some x → Q i x
  | 0, _ => ⟨[], rfl, by simp⟩
  | n + 1, h => by
    obtain ⟨xs, hl, hx⟩ := build n (fun i hi => h i (by omega))
    obtain ⟨a, ha⟩ := h n (by omega)
    refine ⟨xs ++ [a], by simp [hl], fun i x hi => ?_⟩
    by_cases hn : i < n
    · rw [List.getElem?_append_left (by omega)] at hi
      exact hx i x hi
    · have hil : i < (xs ++ [a]).length := (List.getElem?_eq_some_iff.1 hi).1
      obtain rfl : i = n := by simp at hil; omega
      rw [List.getElem?_append_right (by omega), hl, Nat.sub_self] at hi
      obtain rfl : a = x := by simpa using hi
      exact ha
theorem sum_le {α : Type} (μ : α → Nat) : ∀ (xs : List α) (g : Nat → Nat), (∀ i x, xs[i]? = some x → μ x ≤ g i) → (xs.map μ).sum ≤ ((List.range xs.length).map g).sum
  | [], g, _ => by simp
  | x :: l, g, h => by
    have ih := sum_le μ l (fun i => g (i + 1)) (fun i y hy => h (i + 1) y (by simpa using hy))
    have h0 := h 0 x rfl
    rw [List.length_cons, List.range_succ_eq_map, List.map_cons, List.map_cons, List.sum_cons, List.sum_cons, List.map_map]
    exact Nat.add_le_add h0 ih
theorem len_le (g : Nat → Nat) (h : ∀ i, 1 ≤ g i) : ∀ n, n ≤ ((List.range n).map g).sum
  | 0 => by simp
  | n + 1 => by
    have := len_le g h n
    have := h n
    rw [List.range_succ, List.map_append, List.sum_append]
    simp
    omega

section
variable {H : Type} (enc : TypeId × Value → H) (w : World) (base : Nat) (sp : Nat → Bool) (held : Bool)
/-- What reads at a type is an α, with a measure that the reading's bulk bounds. -/
def Reads {α : Type} (t : TypeId) (ea : α → List Value) (Ok : World → α → Prop) (fits : α → Prop) (μ : α → Nat) : Prop :=
  ∀ fuel cs (x : DataW H × List MemPlace), DataW.trod enc Tryz.prog w base sp held fuel t cs = some x → Rows.uptoBulk x.1 ≤ 1048576 → ∃ a : α, cs = ea a ∧ Ok w a ∧ fits a ∧ μ a ≤ Rows.uptoBulk x.1
end

theorem reads_slice {H : Type} {enc : TypeId × Value → H} {w : World} {base : Nat} {sp : Nat → Bool} {held : Bool} {α : Type} {t e k : Nat} {ea : α → List Value} {Ok : World → α → Prop} {fits : α → Prop} {μ : α → Nat}
    (ht : Tryz.prog.underlying t = some (.slice e)) (hk : Tryz.prog.cellsOf e = k) (hk0 : 0 < k) (hlen : ∀ a, (ea a).length = k) (hr : Reads enc w base sp held e ea Ok fits μ)
    (fuel : Nat) (cs : List Value) (x : DataW H × List MemPlace) (h : DataW.trod enc Tryz.prog w base sp held fuel t cs = some x) (hb : Rows.uptoBulk x.1 ≤ 1048576) :
    ∃ (a : Option Addr) (xs : List α) (cap : Nat), cs = [.slice a xs.length cap] ∧ SliceOf k ea Ok w a xs ∧ (∀ y ∈ xs, fits y) ∧ xs.length ≤ Rows.uptoBulk x.1 ∧ (xs.map μ).sum ≤ Rows.uptoBulk x.1 := by
  rcases open_slice ht h with ⟨rfl, rfl⟩ | ⟨a, len, cap, m, n, D, Pl, rfl, hbl, hl, hm, hmm, rfl, hi⟩
  · exact ⟨none, [], 0, rfl, .inl rfl, by simp, by simp, by simp⟩
  · have hml : len ≤ m := by rw [hmm]; split <;> omega
    simp only [Rows.uptoBulk] at hb ⊢
    have hD : ∀ i, i < len → Rows.uptoBulk (D i) ≤ Rows.uptoBulkAll ((List.range len).map D) := fun i hi => bulk_part (List.mem_map.2 ⟨i, List.mem_range.2 hi, rfl⟩)
    obtain ⟨xs, hxl, hx⟩ := build (Q := fun i y => (∀ j v, (ea y)[j]? = some v → w.cell? ((a.add (i * k)).add j) = some v) ∧ Ok w y ∧ fits y ∧ μ y ≤ Rows.uptoBulk (D i)) len (fun i hil => by
      obtain ⟨cs', hc, htr⟩ := hi i (by omega)
      obtain ⟨y, hy1, hy2, hy3, hy4⟩ := hr n cs' (D i, Pl i) htr (by have := hD i hil; simp only; omega)
      rw [hk] at hc
      obtain ⟨_, hcl, hat⟩ := World.cells?_some hc
      refine ⟨y, fun j v hv => ?_, hy2, hy3, hy4⟩
      have hj : j < k := by have := (List.getElem?_eq_some_iff.1 hv).1; rw [hlen] at this; exact this
      rw [hat j hj, hy1]
      exact hv)
    refine ⟨some a, xs, cap, by rw [hxl], ?_, fun y hy => ?_, ?_, ?_⟩
    · cases xs with
      | nil => exact .inl rfl
      | cons y0 ys =>
        have h0 := (hx 0 y0 rfl).1
        have hy0 : ∃ v, (ea y0)[0]? = some v := ⟨_, List.getElem?_eq_getElem (by rw [hlen]; exact hk0)⟩
        obtain ⟨v0, hv0⟩ := hy0
        have hc0 := h0 0 v0 hv0
        simp only [Nat.zero_mul] at hc0
        obtain ⟨b, off, spot⟩ := a
        have hspot : spot = none := by simpa [Addr.add] using World.cell?_spot hc0
        subst hspot
        refine .inr ⟨b, off, rfl, by simpa [Addr.add] using World.block_lt_of_cell? w _ hc0, fun i y hy => ⟨fun j v hv => ?_, (hx i y hy).2.1⟩⟩
        have := (hx i y hy).1 j v hv
        have e : ((⟨b, off, none⟩ : Addr).add (i * k)).add j = ⟨b, off + i * k + j, none⟩ := by
          unfold Addr.add
          split <;> split <;> simp_all
        rw [e] at this
        exact this
    · obtain ⟨i, hi'⟩ := List.getElem?_of_mem hy
      exact (hx i y hi').2.2.1
    · have h1 : xs.length ≤ Rows.uptoBulkAll ((List.range len).map D) := by
        rw [bulk_sum, List.map_map, hxl]
        exact len_le _ (fun i => bulk_one _) len
      omega
    · have h1 := sum_le μ xs (fun i => Rows.uptoBulk (D i)) (fun i y hy => (hx i y hy).2.2.2)
      have h2 : ((List.range xs.length).map fun i => Rows.uptoBulk (D i)).sum = Rows.uptoBulkAll ((List.range len).map D) := by
        rw [bulk_sum, List.map_map, hxl]; rfl
      omega

theorem min64 : IntKind.i64.min = -9223372036854775808 := by decide
theorem max64 : IntKind.i64.max = 9223372036854775807 := by decide
theorem min8 : IntKind.u8.min = 0 := by decide
theorem max8 : IntKind.u8.max = 255 := by decide
theorem i64_of {n : Int} (h : (Lit.int .i64 n).wf = true) : i64 n := by
  simp only [Lit.wf, Bool.and_eq_true, decide_eq_true_eq, min64, max64] at h
  exact h
theorem u8_of {n : Int} (h : (Lit.int .u8 n).wf = true) : 0 ≤ n ∧ n ≤ 255 := by
  simp only [Lit.wf, Bool.and_eq_true, decide_eq_true_eq, min8, max8] at h
  exact h
theorem list1 {α : Type} {l : List α} (h : l.length = 1) : ∃ a0, l = [a0] := by
  obtain _ | ⟨a0, l⟩ := l
  · simp at h
  obtain _ | ⟨b, l⟩ := l
  · exact ⟨a0, rfl⟩
  · simp at h
theorem list2 {α : Type} {l : List α} (h : l.length = 2) : ∃ a0 a1, l = [a0, a1] := by
  obtain _ | ⟨a0, l⟩ := l
  · simp at h
  obtain _ | ⟨a1, l⟩ := l
  · simp at h
  obtain _ | ⟨b, l⟩ := l
  · exact ⟨a0, a1, rfl⟩
  · simp at h
theorem list3 {α : Type} {l : List α} (h : l.length = 3) : ∃ a0 a1 a2, l = [a0, a1, a2] := by
  obtain _ | ⟨a0, l⟩ := l
  · simp at h
  obtain _ | ⟨a1, l⟩ := l
  · simp at h
  obtain _ | ⟨a2, l⟩ := l
  · simp at h
  obtain _ | ⟨b, l⟩ := l
  · exact ⟨a0, a1, a2, rfl⟩
  · simp at h
theorem list5 {α : Type} {l : List α} (h : l.length = 5) : ∃ a0 a1 a2 a3 a4, l = [a0, a1, a2, a3, a4] := by
  obtain _ | ⟨a0, l⟩ := l
  · simp at h
  obtain _ | ⟨a1, l⟩ := l
  · simp at h
  obtain _ | ⟨a2, l⟩ := l
  · simp at h
  obtain _ | ⟨a3, l⟩ := l
  · simp at h
  obtain _ | ⟨a4, l⟩ := l
  · simp at h
  obtain _ | ⟨b, l⟩ := l
  · exact ⟨a0, a1, a2, a3, a4, rfl⟩
  · simp at h
theorem list6 {α : Type} {l : List α} (h : l.length = 6) : ∃ a0 a1 a2 a3 a4 a5, l = [a0, a1, a2, a3, a4, a5] := by
  obtain _ | ⟨a0, l⟩ := l
  · simp at h
  obtain _ | ⟨a1, l⟩ := l
  · simp at h
  obtain _ | ⟨a2, l⟩ := l
  · simp at h
  obtain _ | ⟨a3, l⟩ := l
  · simp at h
  obtain _ | ⟨a4, l⟩ := l
  · simp at h
  obtain _ | ⟨a5, l⟩ := l
  · simp at h
  obtain _ | ⟨b, l⟩ := l
  · exact ⟨a0, a1, a2, a3, a4, a5, rfl⟩
  · simp at h
theorem list7 {α : Type} {l : List α} (h : l.length = 7) : ∃ a0 a1 a2 a3 a4 a5 a6, l = [a0, a1, a2, a3, a4, a5, a6] := by
  obtain _ | ⟨a0, l⟩ := l
  · simp at h
  obtain _ | ⟨a1, l⟩ := l
  · simp at h
  obtain _ | ⟨a2, l⟩ := l
  · simp at h
  obtain _ | ⟨a3, l⟩ := l
  · simp at h
  obtain _ | ⟨a4, l⟩ := l
  · simp at h
  obtain _ | ⟨a5, l⟩ := l
  · simp at h
  obtain _ | ⟨a6, l⟩ := l
  · simp at h
  obtain _ | ⟨b, l⟩ := l
  · exact ⟨a0, a1, a2, a3, a4, a5, a6, rfl⟩
  · simp at h
theorem list8 {α : Type} {l : List α} (h : l.length = 8) : ∃ a0 a1 a2 a3 a4 a5 a6 a7, l = [a0, a1, a2, a3, a4, a5, a6, a7] := by
  obtain _ | ⟨a0, l⟩ := l
  · simp at h
  obtain _ | ⟨a1, l⟩ := l
  · simp at h
  obtain _ | ⟨a2, l⟩ := l
  · simp at h
  obtain _ | ⟨a3, l⟩ := l
  · simp at h
  obtain _ | ⟨a4, l⟩ := l
  · simp at h
  obtain _ | ⟨a5, l⟩ := l
  · simp at h
  obtain _ | ⟨a6, l⟩ := l
  · simp at h
  obtain _ | ⟨a7, l⟩ := l
  · simp at h
  obtain _ | ⟨b, l⟩ := l
  · exact ⟨a0, a1, a2, a3, a4, a5, a6, a7, rfl⟩
  · simp at h

section
variable {H : Type} {enc : TypeId × Value → H} {w : World} {base : Nat} {sp : Nat → Bool} {held : Bool}

theorem c2 : Tryz.prog.cellsOf 2 = 1 := by kernel_rfl
theorem c3 : Tryz.prog.cellsOf 3 = 1 := by kernel_rfl
theorem c4 : Tryz.prog.cellsOf 4 = 1 := by kernel_rfl
theorem c5 : Tryz.prog.cellsOf 5 = 1 := by kernel_rfl
theorem c9 : Tryz.prog.cellsOf 9 = 1 := by kernel_rfl
theorem c23 : Tryz.prog.cellsOf 23 = 1 := by kernel_rfl
theorem c24 : Tryz.prog.cellsOf 24 = 1 := by kernel_rfl
theorem c25 : Tryz.prog.cellsOf 25 = 1 := by kernel_rfl
theorem c26 : Tryz.prog.cellsOf 26 = 1 := by kernel_rfl
theorem c28 : Tryz.prog.cellsOf 28 = 8 := by kernel_rfl
theorem c30 : Tryz.prog.cellsOf 30 = 16 := by kernel_rfl
theorem c49 : Tryz.prog.cellsOf 49 = 3 := by kernel_rfl
theorem c56 : Tryz.prog.cellsOf 56 = 2 := by kernel_rfl
theorem c57 : Tryz.prog.cellsOf 57 = 1 := by kernel_rfl
theorem c58 : Tryz.prog.cellsOf 58 = 1 := by kernel_rfl
theorem c60 : Tryz.prog.cellsOf 60 = 7 := by kernel_rfl
theorem c81 : Tryz.prog.cellsOf 81 = 1 := by kernel_rfl
theorem c83 : Tryz.prog.cellsOf 83 = 3 := by kernel_rfl
theorem c85 : Tryz.prog.cellsOf 85 = 5 := by kernel_rfl
theorem c86 : Tryz.prog.cellsOf 86 = 1 := by kernel_rfl
theorem c88 : Tryz.prog.cellsOf 88 = 1 := by kernel_rfl
theorem c99 : Tryz.prog.cellsOf 99 = 1 := by kernel_rfl
theorem c101 : Tryz.prog.cellsOf 101 = 7 := by kernel_rfl
theorem c116 : Tryz.prog.cellsOf 116 = 8 := by kernel_rfl

theorem read_lk : Reads enc w base sp held 49 Lk.enc Flat Lk.fits (fun _ => 0) := by
  intro fuel cs x h hb
  obtain ⟨ys, n, rfl, hx, hlen, hyl, hf⟩ := DataW.trod_struct Tryz.underlying49 h
  rw [c49] at hlen
  obtain ⟨v0, v1, v2, rfl⟩ := list3 hlen
  obtain ⟨y0, y1, y2, rfl⟩ := list3 hyl
  have g0 := hf 0 _ rfl; have g1 := hf 1 _ rfl; have g2 := hf 2 _ rfl
  simp [c2, c5] at g0 g1 g2
  obtain ⟨z0, e0, _, w0⟩ := DataW.trod_int Tryz.underlying2 g0
  obtain ⟨z1, e1, _, w1⟩ := DataW.trod_int Tryz.underlying2 g1
  obtain ⟨z2, e2, _, w2⟩ := DataW.trod_int Tryz.underlying5 g2
  simp at e0 e1 e2
  subst e0 e1 e2
  exact ⟨⟨z0, z1, z2⟩, rfl, trivial, ⟨i64_of w0, i64_of w1, u8_of w2⟩, Nat.zero_le _⟩

theorem agg_part {x : DataW H × List MemPlace} {ys : List (DataW H × List MemPlace)} (hx : x = (.agg (ys.map (·.1)), ys.flatMap (·.2))) {y : DataW H × List MemPlace} (hy : y ∈ ys) : Rows.uptoBulk y.1 ≤ Rows.uptoBulk x.1 := by
  rw [hx]
  simp only [Rows.uptoBulk]
  have := bulk_part (List.mem_map.2 ⟨y, hy, rfl⟩ : y.1 ∈ ys.map (·.1))
  omega
theorem str_size {s : ByteArray} {y : DataW H × List MemPlace} (h : y = (.lit (.string s.data.toList), [])) : s.size ≤ Rows.uptoBulk y.1 := by
  rw [h]
  simp only [Rows.uptoBulk]
  have : s.data.toList.length = s.size := by simp
  omega

theorem read_reg : Reads enc w base sp held 101 Reg.enc Flat Reg.fits (fun _ => 0) := by
  intro fuel cs x h hb
  obtain ⟨ys, n, rfl, hx, hlen, hyl, hf⟩ := DataW.trod_struct Tryz.underlying101 h
  rw [c101] at hlen
  obtain ⟨v0, v1, v2, v3, v4, v5, v6, rfl⟩ := list7 hlen
  obtain ⟨y0, y1, y2, y3, y4, y5, y6, rfl⟩ := list7 hyl
  have g0 := hf 0 _ rfl; have g1 := hf 1 _ rfl; have g2 := hf 2 _ rfl; have g3 := hf 3 _ rfl; have g4 := hf 4 _ rfl; have g5 := hf 5 _ rfl; have g6 := hf 6 _ rfl
  simp [c9, c3, c99, c4] at g0 g1 g2 g3 g4 g5 g6
  obtain ⟨s0, e0, q0, w0⟩ := DataW.trod_string Tryz.underlying9 g0
  obtain ⟨z1, e1, _, w1⟩ := DataW.trod_int Tryz.underlying3 g1
  obtain ⟨z2, e2, _, w2⟩ := DataW.trod_int Tryz.underlying3 g2
  obtain ⟨z3, e3, _, w3⟩ := DataW.trod_int Tryz.underlying3 g3
  obtain ⟨z4, e4, _, w4⟩ := DataW.trod_int Tryz.underlying3 g4
  obtain ⟨z5, e5, _, w5⟩ := DataW.trod_int Tryz.underlying99 g5
  obtain ⟨z6, e6, _⟩ := DataW.trod_bool Tryz.underlying4 g6
  simp at e0 e1 e2 e3 e4 e5 e6
  subst e0 e1 e2 e3 e4 e5 e6
  have k0 := agg_part hx (y := y0) (by simp)
  have k1 := str_size q0
  exact ⟨⟨s0, z1, z2, z3, z4, z5, z6⟩, rfl, trivial, ⟨by simp only; omega, i64_of w1, i64_of w2, i64_of w3, i64_of w4, (u8_of w5).1, (u8_of w5).2⟩, Nat.zero_le _⟩

theorem read_cm : Reads enc w base sp held 116 Cm.enc Flat Cm.fits (fun _ => 0) := by
  intro fuel cs x h hb
  obtain ⟨ys, n, rfl, hx, hlen, hyl, hf⟩ := DataW.trod_struct Tryz.underlying116 h
  rw [c116] at hlen
  obtain ⟨v0, v1, v2, v3, v4, v5, v6, v7, rfl⟩ := list8 hlen
  obtain ⟨y0, y1, y2, y3, y4, y5, y6, y7, rfl⟩ := list8 hyl
  have g0 := hf 0 _ rfl; have g1 := hf 1 _ rfl; have g2 := hf 2 _ rfl; have g3 := hf 3 _ rfl; have g4 := hf 4 _ rfl; have g5 := hf 5 _ rfl; have g6 := hf 6 _ rfl; have g7 := hf 7 _ rfl
  simp [c9, c3, c2, c4] at g0 g1 g2 g3 g4 g5 g6 g7
  obtain ⟨z0, e0, _, w0⟩ := DataW.trod_int Tryz.underlying2 g0
  obtain ⟨z1, e1, _, w1⟩ := DataW.trod_int Tryz.underlying2 g1
  obtain ⟨z2, e2, _, w2⟩ := DataW.trod_int Tryz.underlying3 g2
  obtain ⟨z3, e3, _, w3⟩ := DataW.trod_int Tryz.underlying3 g3
  obtain ⟨s4, e4, q4, _⟩ := DataW.trod_string Tryz.underlying9 g4
  obtain ⟨s5, e5, q5, _⟩ := DataW.trod_string Tryz.underlying9 g5
  obtain ⟨z6, e6, _⟩ := DataW.trod_bool Tryz.underlying4 g6
  obtain ⟨z7, e7, _⟩ := DataW.trod_bool Tryz.underlying4 g7
  simp at e0 e1 e2 e3 e4 e5 e6 e7
  subst e0 e1 e2 e3 e4 e5 e6 e7
  have k4 := agg_part hx (y := y4) (by simp)
  have k5 := agg_part hx (y := y5) (by simp)
  have l4 := str_size q4
  have l5 := str_size q5
  exact ⟨⟨z0, z1, z2, z3, s4, s5, z6, z7⟩, rfl, trivial, ⟨i64_of w0, i64_of w1, i64_of w2, i64_of w3, by simp only; omega, by simp only; omega⟩, Nat.zero_le _⟩

theorem read_run : Reads enc w base sp held 85 Run.enc Flat Run.fits (fun r => r.text.size) := by
  intro fuel cs x h hb
  obtain ⟨ys, n, rfl, hx, hlen, hyl, hf⟩ := DataW.trod_struct Tryz.underlying85 h
  rw [c85] at hlen
  obtain ⟨v0, v1, v2, v3, v4, rfl⟩ := list5 hlen
  obtain ⟨y0, y1, y2, rfl⟩ := list3 hyl
  have g0 := hf 0 _ rfl; have g1 := hf 1 _ rfl; have g2 := hf 2 _ rfl
  simp [c9, c83] at g0 g1 g2
  obtain ⟨s0, e0, q0, _⟩ := DataW.trod_string Tryz.underlying9 g0
  obtain ⟨s4, e4, q4, _⟩ := DataW.trod_string Tryz.underlying9 g2
  obtain ⟨us, n', rfl, hx', hlen', hyl', hf'⟩ := DataW.trod_struct Tryz.underlying83 g1
  obtain ⟨u0, u1, u2, rfl⟩ := list3 hyl'
  have p0 := hf' 0 _ rfl; have p1 := hf' 1 _ rfl; have p2 := hf' 2 _ rfl
  simp [c81, c4] at p0 p1 p2
  obtain ⟨z1, e1, _, w1⟩ := DataW.trod_int Tryz.underlying81 p0
  obtain ⟨z2, e2, _⟩ := DataW.trod_bool Tryz.underlying4 p1
  obtain ⟨z3, e3, _⟩ := DataW.trod_bool Tryz.underlying4 p2
  simp at e0 e1 e2 e3 e4
  subst e0 e1 e2 e3 e4
  have k0 := agg_part hx (y := y0) (by simp)
  have k2 := agg_part hx (y := y2) (by simp)
  have l0 := str_size q0
  have l2 := str_size q4
  exact ⟨⟨s0, z1, z2, z3, s4⟩, rfl, trivial, ⟨by simp only; omega, by simp only; omega, (u8_of w1).1, (u8_of w1).2⟩, by simp only; omega⟩

theorem sumText_eq : ∀ l : List Run, (l.map fun r => r.text.size).sum = sumText l
  | [] => rfl
  | r :: l => by simp [sumText, sumText_eq l]

theorem read_row : Reads enc w base sp held 88 Row.enc Row.lies Row.fits (fun _ => 0) := by
  intro fuel cs x h hb
  obtain ⟨ys, n, rfl, hx, hlen, hyl, hf⟩ := DataW.trod_struct Tryz.underlying88 h
  rw [c88] at hlen
  obtain ⟨v0, rfl⟩ := list1 hlen
  obtain ⟨y0, rfl⟩ := list1 hyl
  have g0 := hf 0 _ rfl
  simp [c86] at g0
  have k0 := agg_part hx (y := y0) (by simp)
  obtain ⟨a, xs, cap, e, hS, hF, hL, hM⟩ := reads_slice Tryz.underlying86 c85 (by decide) (fun _ => rfl) read_run n [v0] y0 g0 (by omega)
  simp at e
  subst e
  rw [sumText_eq] at hM
  exact ⟨⟨a, cap, xs⟩, rfl, hS, ⟨hF, by simp only; omega, by simp only; omega⟩, Nat.zero_le _⟩

theorem read_ev : Reads enc w base sp held 60 Ev.enc Ev.lies Ev.fits (fun _ => 0) := by
  intro fuel cs x h hb
  obtain ⟨ys, n, rfl, hx, hlen, hyl, hf⟩ := DataW.trod_struct Tryz.underlying60 h
  rw [c60] at hlen
  obtain ⟨v0, v1, v2, v3, v4, v5, v6, rfl⟩ := list7 hlen
  obtain ⟨y0, y1, y2, y3, y4, y5, rfl⟩ := list6 hyl
  have g0 := hf 0 _ rfl; have g1 := hf 1 _ rfl; have g2 := hf 2 _ rfl; have g3 := hf 3 _ rfl; have g4 := hf 4 _ rfl; have g5 := hf 5 _ rfl
  simp [c2, c56, c9, c57, c58] at g0 g1 g2 g3 g4 g5
  obtain ⟨z0, e0, _, w0⟩ := DataW.trod_int Tryz.underlying2 g0
  obtain ⟨us, n', rfl, hx', hlen', hyl', hf'⟩ := DataW.trod_struct Tryz.underlying56 g1
  obtain ⟨u0, u1, rfl⟩ := list2 hyl'
  have p0 := hf' 0 _ rfl; have p1 := hf' 1 _ rfl
  simp [c2] at p0 p1
  obtain ⟨z1, e1, _, w1⟩ := DataW.trod_int Tryz.underlying2 p0
  obtain ⟨z2, e2, _, w2⟩ := DataW.trod_int Tryz.underlying2 p1
  obtain ⟨s3, e3, q3, _⟩ := DataW.trod_string Tryz.underlying9 g2
  obtain ⟨z4, e4, _, w4⟩ := DataW.trod_int Tryz.underlying57 g3
  obtain ⟨s5, e5, q5, _⟩ := DataW.trod_string Tryz.underlying9 g4
  have k2 := agg_part hx (y := y2) (by simp)
  have k4 := agg_part hx (y := y4) (by simp)
  have k5 := agg_part hx (y := y5) (by simp)
  have l3 := str_size q3
  have l5 := str_size q5
  obtain ⟨a, xs, cap, e6, hS, hF, hL, hM⟩ := reads_slice Tryz.underlying58 c88 (by decide) (fun _ => rfl) read_row _ [v6] y5 g5 (by omega)
  simp at e0 e1 e2 e3 e4 e5 e6
  subst e0 e1 e2 e3 e4 e5 e6
  exact ⟨⟨z0, z1, z2, s3, z4, s5, a, cap, xs⟩, rfl, hS, ⟨i64_of w0, i64_of w1, i64_of w2, by simp only; omega, (u8_of w4).1, (u8_of w4).2, by simp only; omega, hF, by simp only; omega⟩, Nat.zero_le _⟩

theorem read_doc : Reads enc w base sp held 28 Doc.enc (fun w d => d.lies w) Doc.fits (fun _ => 0) := by
  intro fuel cs x h hb
  obtain ⟨ys, n, rfl, hx, hlen, hyl, hf⟩ := DataW.trod_struct Tryz.underlying28 h
  rw [c28] at hlen
  obtain ⟨v0, v1, v2, v3, v4, v5, v6, v7, rfl⟩ := list8 hlen
  obtain ⟨y0, y1, y2, y3, y4, y5, y6, y7, rfl⟩ := list8 hyl
  have g0 := hf 0 _ rfl; have g1 := hf 1 _ rfl; have g2 := hf 2 _ rfl; have g3 := hf 3 _ rfl; have g4 := hf 4 _ rfl; have g5 := hf 5 _ rfl; have g6 := hf 6 _ rfl; have g7 := hf 7 _ rfl
  simp [c9, c23, c4, c2, c24, c25, c26] at g0 g1 g2 g3 g4 g5 g6 g7
  obtain ⟨s0, e0, q0, _⟩ := DataW.trod_string Tryz.underlying9 g0
  obtain ⟨s1, e1, q1, _⟩ := DataW.trod_string Tryz.underlying9 g1
  obtain ⟨z2, e2, _, w2⟩ := DataW.trod_int Tryz.underlying23 g2
  obtain ⟨z3, e3, _⟩ := DataW.trod_bool Tryz.underlying4 g3
  obtain ⟨z4, e4, _, w4⟩ := DataW.trod_int Tryz.underlying2 g4
  have k0 := agg_part hx (y := y0) (by simp)
  have k1 := agg_part hx (y := y1) (by simp)
  have k5 := agg_part hx (y := y5) (by simp)
  have k6 := agg_part hx (y := y6) (by simp)
  have k7 := agg_part hx (y := y7) (by simp)
  have l0 := str_size q0
  have l1 := str_size q1
  obtain ⟨ra, regs, rc, e5, hS5, hF5, hL5, _⟩ := reads_slice Tryz.underlying24 c101 (by decide) (fun _ => rfl) read_reg _ [v5] y5 g5 (by omega)
  obtain ⟨ea, evs, ec, e6, hS6, hF6, hL6, _⟩ := reads_slice Tryz.underlying25 c60 (by decide) (fun _ => rfl) read_ev _ [v6] y6 g6 (by omega)
  obtain ⟨ca, cms, cc, e7, hS7, hF7, hL7, _⟩ := reads_slice Tryz.underlying26 c116 (by decide) (fun _ => rfl) read_cm _ [v7] y7 g7 (by omega)
  simp at e0 e1 e2 e3 e4 e5 e6 e7
  subst e0 e1 e2 e3 e4 e5 e6 e7
  exact ⟨⟨s0, s1, z2, z3, z4, ra, rc, regs, ea, ec, evs, ca, cc, cms⟩, rfl, ⟨hS5, hS6, hS7⟩, ⟨by simp only; omega, by simp only; omega, (u8_of w2).1, (u8_of w2).2, i64_of w4, hF5, by simp only; omega, hF6, by simp only; omega, hF7, by simp only; omega⟩, Nat.zero_le _⟩

/-- Two documents. -/
def pairEnc (p : Doc × Doc) : List Value := p.1.enc ++ p.2.enc
theorem read_pair : Reads enc w base sp held 30 pairEnc (fun w p => p.1.lies w ∧ p.2.lies w) (fun p => p.1.fits ∧ p.2.fits) (fun _ => 0) := by
  intro fuel cs x h hb
  obtain ⟨ys, n, rfl, hx, hlen, hyl, hf⟩ := DataW.trod_struct Tryz.underlying30 h
  rw [c30] at hlen
  obtain ⟨y0, y1, rfl⟩ := list2 hyl
  have g0 := hf 0 _ rfl; have g1 := hf 1 _ rfl
  simp [c28] at g0 g1
  have k0 := agg_part hx (y := y0) (by simp)
  have k1 := agg_part hx (y := y1) (by simp)
  obtain ⟨d, e0, l0, f0, _⟩ := read_doc _ _ y0 g0 (by omega)
  obtain ⟨d', e1, l1, f1, _⟩ := read_doc _ _ y1 g1 (by omega)
  refine ⟨(d, d'), ?_, ⟨l0, l1⟩, ⟨f0, f1⟩, Nat.zero_le _⟩
  have h8 : (cs.drop 8).take 8 = cs.drop 8 := List.take_of_length_le (by simp [hlen])
  try rw [h8] at e1
  show cs = d.enc ++ d'.enc
  rw [← e0, ← e1, List.take_append_drop]
end

end Go.Proofs.YtdgakmpopgpijaaGreatDoor
