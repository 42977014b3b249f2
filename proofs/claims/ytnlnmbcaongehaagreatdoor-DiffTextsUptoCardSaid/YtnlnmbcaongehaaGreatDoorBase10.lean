/- slices.Delete at regions, events and comments: one element of an own row is taken out. (printed by gen_delete.py) -/
import Derived.Deep.RegionLaw
import Derived.Lib.SliceRun
import Derived.Lib.SlBuf
import Derived.Lib.ReflectliteSwap
import Derived.Test.YtnlnmbcaongehaaGreatDoorBase06
set_option linter.unusedVariables false
set_option linter.unusedSimpArgs false
namespace Go.Proofs.YtnlnmbcaongehaaGreatDoor
open Go.RowKit
/-- A list without its k-th element. -/
def dropAt {α : Type} (xs : List α) (k : Nat) : List α := xs.take k ++ xs.drop (k + 1)
theorem dropAt_get {α : Type} (xs : List α) (k : Nat) : ∀ i x, (dropAt xs k)[i]? = some x → k < xs.length → (i < k ∧ xs[i]? = some x) ∨ (k ≤ i ∧ xs[i + 1]? = some x) := by
  intro i x hx hk
  unfold dropAt at hx
  by_cases hi : i < k
  · rw [List.getElem?_append_left (by simp; omega), List.getElem?_take, if_pos hi] at hx
    exact .inl ⟨hi, hx⟩
  · rw [List.getElem?_append_right (by simp; omega), List.length_take, Nat.min_eq_left (by omega), List.getElem?_drop] at hx
    exact .inr ⟨by omega, by rw [← hx]; congr 1; omega⟩
theorem dropAt_len {α : Type} (xs : List α) (k : Nat) (hk : k < xs.length) : (dropAt xs k).length = xs.length - 1 := by
  unfold dropAt
  simp
  omega
theorem own_cell {α : Type} {T K : Nat} {enc : α → List Value} (hk : ∀ x, (enc x).length = K) {w : World} {base g cap : Nat} {xs : List α} (h : w.ownsRow base T K (.slice (some ⟨g, 0, none⟩) xs.length cap) xs.length (xs.flatMap enc)) {k : Nat} {x : α} (hx : xs[k]? = some x) (j : Nat) (v : Value) (hv : (enc x)[j]? = some v) : w.cell? ⟨g, k * K + j, none⟩ = some v := by
  have h1 := flat_at enc K hk xs k x j v hx hv
  have h2 := (List.getElem?_eq_some_iff.1 h1).1
  rw [flat_len enc K hk xs] at h2
  rw [h.cellAt (k * K + j) h2]
  exact h1
/-- Behind the move and the clearing. -/
theorem delete_done {α : Type} {T K : Nat} {enc : α → List Value} (hke : ∀ x, (enc x).length = K) {w : World} {g cap k : Nat} {base : Nat} {xs : List α} (h : w.ownsRow base T K (.slice (some ⟨g, 0, none⟩) xs.length cap) xs.length (xs.flatMap enc)) (hk : k < xs.length) (zs : List Value) (hz : zs.length = K) :
    SliceOf K enc Flat ((w.setCells g (k * K) ((xs.drop (k + 1)).flatMap enc)).setCells g ((xs.length - 1) * K) zs) (some ⟨g, 0, none⟩) (dropAt xs k) ∧ Below base w ((w.setCells g (k * K) ((xs.drop (k + 1)).flatMap enc)).setCells g ((xs.length - 1) * K) zs) := by
  have hg := h.lt g rfl
  refine ⟨.inr ⟨g, 0, rfl, ?_, fun i x hx => ⟨fun j v hv => ?_, trivial⟩⟩, Lib.below_setCells g hg.1 _ _ (Lib.below_setCells g hg.1 _ _ (Below.refl _ _))⟩
  · have h1 := (Lib.below_setCells g (Nat.le_refl g) zs ((xs.length - 1) * K) (Lib.below_setCells g (Nat.le_refl g) ((xs.drop (k + 1)).flatMap enc) (k * K) (Below.refl g w))).size
    omega
  · have hj : j < K := by rw [← hke x]; exact (List.getElem?_eq_some_iff.1 hv).1
    have hi : i < xs.length - 1 := by rw [← dropAt_len xs k hk]; exact (List.getElem?_eq_some_iff.1 hx).1
    have hmul : ∀ a b : Nat, a + 1 ≤ b → a * K + K ≤ b * K := fun a b h => by rw [← Nat.succ_mul]; exact Nat.mul_le_mul_right K h
    have hm1 := hmul i (xs.length - 1) (by omega)
    rw [World.cell?_setCells_out g zs _ _ _ (fun _ _ => .inl (by simp only; omega))]
    rcases dropAt_get xs k i x hx hk with ⟨hik, hxi⟩ | ⟨hik, hxi⟩
    · have hm2 := hmul i k (by omega)
      rw [World.cell?_setCells_out g _ _ _ _ (fun _ _ => .inl (by simp only; omega))]
      have := own_cell hke h hxi j v hv
      rw [show 0 + i * K + j = i * K + j by omega]
      exact this
    · have hlen := flat_len enc K hke (xs.drop (k + 1))
      rw [List.length_drop] at hlen
      have e := flat_at enc K hke (xs.drop (k + 1)) (i - k) x j v (by rw [List.getElem?_drop, ← hxi]; congr 1; omega) hv
      have hlt := (List.getElem?_eq_some_iff.1 e).1
      have htot : k * K + (xs.drop (k + 1)).length * K ≤ xs.length * K := by rw [← Nat.add_mul]; exact Nat.mul_le_mul_right K (by rw [List.length_drop]; omega)
      rw [List.length_drop] at htot
      have hin := World.cell?_setCells_in g ((xs.drop (k + 1)).flatMap enc) (k * K) w (fun t ht => by
        rw [h.cellAt (k * K + t) (by omega), List.getElem?_eq_getElem (by rw [h.1]; omega)]; rfl) ((i - k) * K + j) hlt
      have hik2 : i * K = k * K + (i - k) * K := by rw [← Nat.add_mul]; congr 1; omega
      rw [show 0 + i * K + j = k * K + ((i - k) * K + j) by omega, hin, ← e, List.getElem?_eq_getElem]
/-- clear of one element. -/
theorem run_clearReg (w : World) (g o c : Nat) (ty : TypeId) (hc : ∀ j, j < 7 → (w.cell? ⟨g, o + j, none⟩).isSome = true) (hf : ∀ j, j < 7 → w.frozen? ⟨g, o + j, none⟩ = false) :
    (Builtin.clear_ #[23] ty #[.slice (some ⟨g, o, none⟩) 1 c]).run Tryz.prog w = .ok (.tuple #[]) (w.setCells g o [.string ⟨#[]⟩, .int .i64 0, .int .i64 0, .int .i64 0, .int .i64 0, .int .u8 0, .bool false]) := by
  have hz : (zeroValue 44).run Tryz.prog w = .ok (.agg #[.string ⟨#[]⟩, .int .i64 0, .int .i64 0, .int .i64 0, .int .i64 0, .int .u8 0, .bool false]) w := by kernel_rfl
  have hst := run_storeCells_cells (P := Tryz.prog) g o [.string ⟨#[]⟩, .int .i64 0, .int .i64 0, .int .i64 0, .int .i64 0, .int .u8 0, .bool false] 0 w (by simpa using hc) (by simpa using hf) (by intro v hv; simp at hv; rcases hv with rfl | rfl | rfl | rfl | rfl | rfl | rfl <;> rfl)
  have hzc : (Builtin.zeroCells (Value.agg #[.string ⟨#[]⟩, .int .i64 0, .int .i64 0, .int .i64 0, .int .i64 0, .int .u8 0, .bool false]).cells 1).toList = [.string ⟨#[]⟩, .int .i64 0, .int .i64 0, .int .i64 0, .int .i64 0, .int .u8 0, .bool false] := by kernel_rfl
  simp only [Nat.add_zero] at hst
  simp [Builtin.clear_, run_underlying Tryz.underlying23, hz, hzc, hst]
set_option maxRecDepth 100000 in
set_option maxHeartbeats 4000000 in
theorem deleteReg_calls (base g cap k : Nat) (xs : List Reg) (w : World) (h : w.ownsRow base 44 7 (.slice (some ⟨g, 0, none⟩) xs.length cap) xs.length (xs.flatMap Reg.enc)) (hk : k < xs.length) (hl : xs.length ≤ 4000000) :
    Calls Tryz.prog 183 #[.slice (some ⟨g, 0, none⟩) xs.length cap, .int .i64 k, .int .i64 ((k : Int) + 1)] w fun e w' => e = .returned (.slice (some ⟨g, 0, none⟩) (xs.length - 1) cap) ∧ SliceOf 7 Reg.enc Flat w' (some ⟨g, 0, none⟩) (dropAt xs k) ∧ Below base w w' := by
  have hcap : xs.length ≤ cap ∧ cap ≤ maxLen := by
    rcases h.2 with ⟨h', _⟩ | ⟨g', cap', cur, h', _, hg, h1, h2, h3, _⟩
    · simp at h'
    · simp only [Value.slice.injEq, Option.some.injEq, Addr.mk.injEq, and_true, true_and] at h'
      obtain ⟨rfl, rfl⟩ := h'
      exact ⟨h1, h2⟩
  have hm : cap ≤ 9223372036854775807 := by have := hcap.2; simp only [maxLen] at this; omega
  have hc1 := hcap.1
  obtain ⟨j0, hj, hy0, hy1, hy2⟩ := info_parts Tryz.info44
  have hlen := flat_len Reg.enc 7 (fun _ => rfl) (xs.drop (k + 1))
  rw [List.length_drop] at hlen
  have hcell : ∀ t, t < xs.length * 7 → (w.cell? ⟨g, t, none⟩).isSome = true := fun t ht => by
    rw [h.cellAt t ht, List.getElem?_eq_getElem (by rw [h.1]; omega)]; rfl
  have hsrc : ∀ t u, ((xs.drop (k + 1)).flatMap Reg.enc)[t]? = some u → w.cell? ⟨g, (k + 1) * 7 + t, none⟩ = some u := fun t u hu => by
    have ht := (List.getElem?_eq_some_iff.1 hu).1
    rw [h.cellAt ((k + 1) * 7 + t) (by omega)]
    have e : xs.flatMap Reg.enc = (xs.take (k + 1)).flatMap Reg.enc ++ (xs.drop (k + 1)).flatMap Reg.enc := by rw [← List.flatMap_append, List.take_append_drop]
    have l1 := flat_len Reg.enc 7 (fun _ => rfl) (xs.take (k + 1))
    rw [List.length_take, Nat.min_eq_left (by omega)] at l1
    rw [e, List.getElem?_append_right (by omega), ← hu]
    congr 1
    omega
  obtain ⟨A, hA, hsA⟩ : ∃ A : Addr, (if cap = k + 1 then some (⟨g, 0, none⟩ : Addr) else some ⟨g, (k + 1) * 7, none⟩) = some A ∧ Hid (∀ t u, ((xs.drop (k + 1)).flatMap Reg.enc)[t]? = some u → w.drew.cell? (A.add t) = some u) := by
    by_cases hq : cap = k + 1
    · refine ⟨⟨g, 0, none⟩, by simp [hq], fun t u hu => ?_⟩
      have := (List.getElem?_eq_some_iff.1 hu).1
      omega
    · refine ⟨⟨g, (k + 1) * 7, none⟩, by simp [hq], fun t u hu => ?_⟩
      rw [Addr.add_lit]
      exact hsrc t u hu
  have s1 := Lib.hid (show ((xs.drop (k + 1)).flatMap Reg.enc).length = (xs.length - (k + 1)) * 7 from hlen)
  have s2 := Lib.hid (flat_one Reg.one (xs.drop (k + 1)))
  have s3 := Lib.hid (show ∀ t, t < ((xs.drop (k + 1)).flatMap Reg.enc).length → (w.drew.cell? ⟨g, 0 + k * 7 + t, none⟩).isSome = true ∧ w.drew.frozen? ⟨g, 0 + k * 7 + t, none⟩ = false from fun t ht => ⟨hcell _ (by omega), h.frozenAt _⟩)
  obtain ⟨W1, hW1⟩ : ∃ W1, W1 = w.drew.setCells g (0 + k * 7) ((xs.drop (k + 1)).flatMap Reg.enc) := ⟨_, rfl⟩
  have hcl : ∀ ty, (Builtin.clear_ #[23] ty #[.slice (some ⟨g, (xs.length - 1) * 7, none⟩) 1 (cap - (xs.length - 1))]).run Tryz.prog W1 = .ok (.tuple #[]) (W1.setCells g ((xs.length - 1) * 7) [.string ⟨#[]⟩, .int .i64 0, .int .i64 0, .int .i64 0, .int .i64 0, .int .u8 0, .bool false]) := fun ty => run_clearReg W1 g _ _ ty (fun j hj => by
      rw [hW1]
      refine Lib.isSome_setCells g _ _ _ _ ?_
      exact hcell _ (by omega)) (fun j hj => by rw [hW1, World.frozen?_setCells]; exact h.frozenAt _)
  have hdone := delete_done (enc := Reg.enc) (fun _ => rfl) (w := w.drew) (k := k) (World.ownsRow.drew h) hk [.string ⟨#[]⟩, .int .i64 0, .int .i64 0, .int .i64 0, .int .i64 0, .int .u8 0, .bool false] rfl
  rw [show k * 7 = 0 + k * 7 by omega, ← hW1] at hdone
  have HD := Lib.hid hdone
  have HW := Lib.hid hW1
  have JI := Lib.hid hj; have J1 := Lib.hid hy1
  have HB0 := Lib.hid ((Below.refl base w).drew)
  clear hdone hW1 hj hy0 hy1 hy2 hlen hcell hsrc h hcap
  generalize (xs.drop (k + 1)).flatMap Reg.enc = news at *
  generalize dropAt xs k = ds at *
  have mixed : Tryz.prog.follows Departure.mixedOrders = true := by kernel_rfl
  obtain ⟨m, hm1⟩ : ∃ m, xs.length = k + 1 + m := ⟨xs.length - (k + 1), by omega⟩
  generalize xs.length = n at *
  have e1 : n - (k + 1) = m := by omega
  have e2 : n - 1 = k + m := by omega
  have e3 : n - (k + m) = 1 := by omega
  rw [e1] at s1
  rw [e2] at hcl HD ⊢
  have hk0 : (0 : Int) ≤ (k : Int) + 1 := by omega
  have hk1 : (k : Int) + 1 ≤ (n : Int) := by omega
  have hkmn : k + m ≤ n := by omega
  have hkmi : (k : Int) + (m : Int) ≤ (n : Int) := by omega
  have hkm0 : (0 : Int) ≤ (k : Int) + (m : Int) := by omega
  have hnc : n ≤ cap := hc1
  have HM1 := Lib.hid hm1
  clear hm1
  have hic : k ≤ cap := by omega
  have hjc : k + 1 ≤ cap := by omega
  have hkm : k + m ≤ cap := by omega
  have hkm2 : ¬ cap = k + m := by omega
  have hcm : cap ≤ maxLen := by unfold maxLen; omega
  go_enter Tryz.func183, Tryz.ntmps183
  go_wp2_with fail
  go_region_law_o (refine step_append_room rfl (.tmp 22) (.tmp 25) 23 rfl 44 j0 7 Tryz.underlying23 JI.out J1.out g 0 k cap (by simp [Act.eval, Act.put]) A m (cap - (k + 1)) news (by simp [Act.eval, Act.put]) s1.out hsA.out s2.out (by omega) s3.out ?_; rw [← HW.out])
  go_wp2_with fail
  go_ret
  exact ⟨rfl, HD.out.1, HB0.out.trans HD.out.2⟩
/-- clear of one element. -/
theorem run_clearEv (w : World) (g o c : Nat) (ty : TypeId) (hc : ∀ j, j < 7 → (w.cell? ⟨g, o + j, none⟩).isSome = true) (hf : ∀ j, j < 7 → w.frozen? ⟨g, o + j, none⟩ = false) :
    (Builtin.clear_ #[24] ty #[.slice (some ⟨g, o, none⟩) 1 c]).run Tryz.prog w = .ok (.tuple #[]) (w.setCells g o [.int .i64 0, .int .i64 0, .int .i64 0, .string ⟨#[]⟩, .int .u8 0, .string ⟨#[]⟩, .slice none 0 0]) := by
  have hz : (zeroValue 50).run Tryz.prog w = .ok (.agg #[.int .i64 0, .int .i64 0, .int .i64 0, .string ⟨#[]⟩, .int .u8 0, .string ⟨#[]⟩, .slice none 0 0]) w := by kernel_rfl
  have hst := run_storeCells_cells (P := Tryz.prog) g o [.int .i64 0, .int .i64 0, .int .i64 0, .string ⟨#[]⟩, .int .u8 0, .string ⟨#[]⟩, .slice none 0 0] 0 w (by simpa using hc) (by simpa using hf) (by intro v hv; simp at hv; rcases hv with rfl | rfl | rfl | rfl | rfl | rfl | rfl <;> rfl)
  have hzc : (Builtin.zeroCells (Value.agg #[.int .i64 0, .int .i64 0, .int .i64 0, .string ⟨#[]⟩, .int .u8 0, .string ⟨#[]⟩, .slice none 0 0]).cells 1).toList = [.int .i64 0, .int .i64 0, .int .i64 0, .string ⟨#[]⟩, .int .u8 0, .string ⟨#[]⟩, .slice none 0 0] := by kernel_rfl
  simp only [Nat.add_zero] at hst
  simp [Builtin.clear_, run_underlying Tryz.underlying24, hz, hzc, hst]
set_option maxRecDepth 100000 in
set_option maxHeartbeats 4000000 in
theorem deleteEv_calls (base g cap k : Nat) (xs : List Ev) (w : World) (h : w.ownsRow base 50 7 (.slice (some ⟨g, 0, none⟩) xs.length cap) xs.length (xs.flatMap Ev.enc)) (hk : k < xs.length) (hl : xs.length ≤ 4000000) :
    Calls Tryz.prog 187 #[.slice (some ⟨g, 0, none⟩) xs.length cap, .int .i64 k, .int .i64 ((k : Int) + 1)] w fun e w' => e = .returned (.slice (some ⟨g, 0, none⟩) (xs.length - 1) cap) ∧ SliceOf 7 Ev.enc Flat w' (some ⟨g, 0, none⟩) (dropAt xs k) ∧ Below base w w' := by
  have hcap : xs.length ≤ cap ∧ cap ≤ maxLen := by
    rcases h.2 with ⟨h', _⟩ | ⟨g', cap', cur, h', _, hg, h1, h2, h3, _⟩
    · simp at h'
    · simp only [Value.slice.injEq, Option.some.injEq, Addr.mk.injEq, and_true, true_and] at h'
      obtain ⟨rfl, rfl⟩ := h'
      exact ⟨h1, h2⟩
  have hm : cap ≤ 9223372036854775807 := by have := hcap.2; simp only [maxLen] at this; omega
  have hc1 := hcap.1
  obtain ⟨j0, hj, hy0, hy1, hy2⟩ := info_parts Tryz.info50
  have hlen := flat_len Ev.enc 7 (fun _ => rfl) (xs.drop (k + 1))
  rw [List.length_drop] at hlen
  have hcell : ∀ t, t < xs.length * 7 → (w.cell? ⟨g, t, none⟩).isSome = true := fun t ht => by
    rw [h.cellAt t ht, List.getElem?_eq_getElem (by rw [h.1]; omega)]; rfl
  have hsrc : ∀ t u, ((xs.drop (k + 1)).flatMap Ev.enc)[t]? = some u → w.cell? ⟨g, (k + 1) * 7 + t, none⟩ = some u := fun t u hu => by
    have ht := (List.getElem?_eq_some_iff.1 hu).1
    rw [h.cellAt ((k + 1) * 7 + t) (by omega)]
    have e : xs.flatMap Ev.enc = (xs.take (k + 1)).flatMap Ev.enc ++ (xs.drop (k + 1)).flatMap Ev.enc := by rw [← List.flatMap_append, List.take_append_drop]
    have l1 := flat_len Ev.enc 7 (fun _ => rfl) (xs.take (k + 1))
    rw [List.length_take, Nat.min_eq_left (by omega)] at l1
    rw [e, List.getElem?_append_right (by omega), ← hu]
    congr 1
    omega
  obtain ⟨A, hA, hsA⟩ : ∃ A : Addr, (if cap = k + 1 then some (⟨g, 0, none⟩ : Addr) else some ⟨g, (k + 1) * 7, none⟩) = some A ∧ Hid (∀ t u, ((xs.drop (k + 1)).flatMap Ev.enc)[t]? = some u → w.drew.cell? (A.add t) = some u) := by
    by_cases hq : cap = k + 1
    · refine ⟨⟨g, 0, none⟩, by simp [hq], fun t u hu => ?_⟩
      have := (List.getElem?_eq_some_iff.1 hu).1
      omega
    · refine ⟨⟨g, (k + 1) * 7, none⟩, by simp [hq], fun t u hu => ?_⟩
      rw [Addr.add_lit]
      exact hsrc t u hu
  have s1 := Lib.hid (show ((xs.drop (k + 1)).flatMap Ev.enc).length = (xs.length - (k + 1)) * 7 from hlen)
  have s2 := Lib.hid (flat_one Ev.one (xs.drop (k + 1)))
  have s3 := Lib.hid (show ∀ t, t < ((xs.drop (k + 1)).flatMap Ev.enc).length → (w.drew.cell? ⟨g, 0 + k * 7 + t, none⟩).isSome = true ∧ w.drew.frozen? ⟨g, 0 + k * 7 + t, none⟩ = false from fun t ht => ⟨hcell _ (by omega), h.frozenAt _⟩)
  obtain ⟨W1, hW1⟩ : ∃ W1, W1 = w.drew.setCells g (0 + k * 7) ((xs.drop (k + 1)).flatMap Ev.enc) := ⟨_, rfl⟩
  have hcl : ∀ ty, (Builtin.clear_ #[24] ty #[.slice (some ⟨g, (xs.length - 1) * 7, none⟩) 1 (cap - (xs.length - 1))]).run Tryz.prog W1 = .ok (.tuple #[]) (W1.setCells g ((xs.length - 1) * 7) [.int .i64 0, .int .i64 0, .int .i64 0, .string ⟨#[]⟩, .int .u8 0, .string ⟨#[]⟩, .slice none 0 0]) := fun ty => run_clearEv W1 g _ _ ty (fun j hj => by
      rw [hW1]
      refine Lib.isSome_setCells g _ _ _ _ ?_
      exact hcell _ (by omega)) (fun j hj => by rw [hW1, World.frozen?_setCells]; exact h.frozenAt _)
  have hdone := delete_done (enc := Ev.enc) (fun _ => rfl) (w := w.drew) (k := k) (World.ownsRow.drew h) hk [.int .i64 0, .int .i64 0, .int .i64 0, .string ⟨#[]⟩, .int .u8 0, .string ⟨#[]⟩, .slice none 0 0] rfl
  rw [show k * 7 = 0 + k * 7 by omega, ← hW1] at hdone
  have HD := Lib.hid hdone
  have HW := Lib.hid hW1
  have JI := Lib.hid hj; have J1 := Lib.hid hy1
  have HB0 := Lib.hid ((Below.refl base w).drew)
  clear hdone hW1 hj hy0 hy1 hy2 hlen hcell hsrc h hcap
  generalize (xs.drop (k + 1)).flatMap Ev.enc = news at *
  generalize dropAt xs k = ds at *
  have mixed : Tryz.prog.follows Departure.mixedOrders = true := by kernel_rfl
  obtain ⟨m, hm1⟩ : ∃ m, xs.length = k + 1 + m := ⟨xs.length - (k + 1), by omega⟩
  generalize xs.length = n at *
  have e1 : n - (k + 1) = m := by omega
  have e2 : n - 1 = k + m := by omega
  have e3 : n - (k + m) = 1 := by omega
  rw [e1] at s1
  rw [e2] at hcl HD ⊢
  have hk0 : (0 : Int) ≤ (k : Int) + 1 := by omega
  have hk1 : (k : Int) + 1 ≤ (n : Int) := by omega
  have hkmn : k + m ≤ n := by omega
  have hkmi : (k : Int) + (m : Int) ≤ (n : Int) := by omega
  have hkm0 : (0 : Int) ≤ (k : Int) + (m : Int) := by omega
  have hnc : n ≤ cap := hc1
  have HM1 := Lib.hid hm1
  clear hm1
  have hic : k ≤ cap := by omega
  have hjc : k + 1 ≤ cap := by omega
  have hkm : k + m ≤ cap := by omega
  have hkm2 : ¬ cap = k + m := by omega
  have hcm : cap ≤ maxLen := by unfold maxLen; omega
  go_enter Tryz.func187, Tryz.ntmps187
  go_wp2_with fail
  go_region_law_o (refine step_append_room rfl (.tmp 22) (.tmp 25) 24 rfl 50 j0 7 Tryz.underlying24 JI.out J1.out g 0 k cap (by simp [Act.eval, Act.put]) A m (cap - (k + 1)) news (by simp [Act.eval, Act.put]) s1.out hsA.out s2.out (by omega) s3.out ?_; rw [← HW.out])
  go_wp2_with fail
  go_ret
  exact ⟨rfl, HD.out.1, HB0.out.trans HD.out.2⟩
end Go.Proofs.YtnlnmbcaongehaaGreatDoor
