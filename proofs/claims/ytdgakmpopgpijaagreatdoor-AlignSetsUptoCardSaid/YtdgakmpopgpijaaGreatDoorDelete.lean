/- The contract of slices.Delete at links: one element of an own row is taken out. -/
import Derived.Test.YtdgakmpopgpijaaGreatDoorSet
import Derived.Deep.RegionLaw
import Derived.Lib.SliceRun
import Derived.Lib.SlBuf
set_option linter.unusedVariables false
namespace Go.Proofs.YtdgakmpopgpijaaGreatDoor
open Go.RowKit

/-- clear of one link. -/
theorem run_clear_lk (w : World) (g o c : Nat) (ty : TypeId) (hc : ∀ j, j < 3 → (w.cell? ⟨g, o + j, none⟩).isSome = true) (hf : ∀ j, j < 3 → w.frozen? ⟨g, o + j, none⟩ = false) :
    (Builtin.clear_ #[22] ty #[.slice (some ⟨g, o, none⟩) 1 c]).run Tryz.prog w = .ok (.tuple #[]) (w.setCells g o [.int .i64 0, .int .i64 0, .int .u8 0]) := by
  have hz : (zeroValue 49).run Tryz.prog w = .ok (.agg #[.int .i64 0, .int .i64 0, .int .u8 0]) w := by kernel_rfl
  have hst := run_storeCells_cells (P := Tryz.prog) g o [.int .i64 0, .int .i64 0, .int .u8 0] 0 w (by simpa using hc) (by simpa using hf) (by intro v hv; simp at hv; rcases hv with rfl | rfl | rfl <;> rfl)
  have hzc : (Builtin.zeroCells (Value.agg #[.int .i64 0, .int .i64 0, .int .u8 0]).cells 1).toList = [.int .i64 0, .int .i64 0, .int .u8 0] := by kernel_rfl
  simp only [Nat.add_zero] at hst
  simp [Builtin.clear_, run_underlying Tryz.underlying22, hz, hzc, hst]

theorem lk_drop (xs : List Lk) (k : Nat) : ∀ i x, (dropLks xs k)[i]? = some x → k < xs.length → (i < k ∧ xs[i]? = some x) ∨ (k ≤ i ∧ xs[i + 1]? = some x) := by
  intro i x hx hk
  unfold dropLks at hx
  by_cases hi : i < k
  · rw [List.getElem?_append_left (by simp; omega), List.getElem?_take, if_pos hi] at hx
    exact .inl ⟨hi, hx⟩
  · rw [List.getElem?_append_right (by simp; omega), List.length_take, Nat.min_eq_left (by omega), List.getElem?_drop] at hx
    exact .inr ⟨by omega, by rw [← hx]; congr 1; omega⟩
theorem dropLks_len (xs : List Lk) (k : Nat) (hk : k < xs.length) : (dropLks xs k).length = xs.length - 1 := by
  unfold dropLks
  simp
  omega

/-- Behind the move and the clearing. -/
theorem delete_done {w : World} {g cap k : Nat} {base : Nat} {xs : List Lk} (h : w.ownsRow base 49 3 (.slice (some ⟨g, 0, none⟩) xs.length cap) xs.length (xs.flatMap Lk.enc)) (hk : k < xs.length) (zs : List Value) (hz : zs.length = 3) :
    LksAt ((w.setCells g (k * 3) ((xs.drop (k + 1)).flatMap Lk.enc)).setCells g ((xs.length - 1) * 3) zs) (some ⟨g, 0, none⟩) (dropLks xs k) ∧ Below base w ((w.setCells g (k * 3) ((xs.drop (k + 1)).flatMap Lk.enc)).setCells g ((xs.length - 1) * 3) zs) := by
  have hg := h.lt g rfl
  refine ⟨.inr ⟨g, 0, rfl, ?_, fun i x hx => ⟨fun j v hv => ?_, trivial⟩⟩, Lib.below_setCells g hg.1 _ _ (Lib.below_setCells g hg.1 _ _ (Below.refl _ _))⟩
  · have h1 := (Lib.below_setCells g (Nat.le_refl g) zs ((xs.length - 1) * 3) (Lib.below_setCells g (Nat.le_refl g) ((xs.drop (k + 1)).flatMap Lk.enc) (k * 3) (Below.refl g w))).size
    omega
  · have hj : j < 3 := (List.getElem?_eq_some_iff.1 hv).1
    have hi : i < xs.length - 1 := by rw [← dropLks_len xs k hk]; exact (List.getElem?_eq_some_iff.1 hx).1
    rw [World.cell?_setCells_out g zs _ _ _ (fun _ _ => .inl (by simp only; omega))]
    rcases lk_drop xs k i x hx hk with ⟨hik, hxi⟩ | ⟨hik, hxi⟩
    · rw [World.cell?_setCells_out g _ _ _ _ (fun _ _ => .inl (by simp only; omega))]
      have := lk_cell h hxi j v hv
      rw [show 0 + i * 3 + j = i * 3 + j by omega]
      exact this
    · have hlen := flat_len Lk.enc 3 (fun _ => rfl) (xs.drop (k + 1))
      rw [List.length_drop] at hlen
      have hin := World.cell?_setCells_in g ((xs.drop (k + 1)).flatMap Lk.enc) (k * 3) w (fun t ht => by
        rw [h.cellAt (k * 3 + t) (by omega), List.getElem?_eq_getElem (by rw [h.1]; omega)]; rfl) ((i - k) * 3 + j) (by omega)
      have e := flat_at Lk.enc 3 (fun _ => rfl) (xs.drop (k + 1)) (i - k) x j v (by rw [List.getElem?_drop, ← hxi]; congr 1; omega) hv
      rw [show 0 + i * 3 + j = k * 3 + ((i - k) * 3 + j) by omega, hin, ← e, List.getElem?_eq_getElem]

set_option maxRecDepth 100000 in
set_option maxHeartbeats 4000000 in
theorem delete_calls (base g cap k : Nat) (xs : List Lk) (w : World) (h : w.ownsRow base 49 3 (.slice (some ⟨g, 0, none⟩) xs.length cap) xs.length (xs.flatMap Lk.enc)) (hk : k < xs.length) (hl : xs.length ≤ 4000000) :
    Calls Tryz.prog 49 #[.slice (some ⟨g, 0, none⟩) xs.length cap, .int .i64 k, .int .i64 ((k : Int) + 1)] w fun e w' => e = .returned (.slice (some ⟨g, 0, none⟩) (xs.length - 1) cap) ∧ LksAt w' (some ⟨g, 0, none⟩) (dropLks xs k) ∧ Below base w w' := by
  have hcap : xs.length ≤ cap ∧ cap ≤ maxLen := by
    rcases h.2 with ⟨h', _⟩ | ⟨g', cap', cur, h', _, hg, h1, h2, h3, _⟩
    · simp at h'
    · simp only [Value.slice.injEq, Option.some.injEq, Addr.mk.injEq, and_true, true_and] at h'
      obtain ⟨rfl, rfl⟩ := h'
      exact ⟨h1, h2⟩
  have hm : cap ≤ 9223372036854775807 := by have := hcap.2; simp only [maxLen] at this; omega
  have hc1 := hcap.1
  obtain ⟨j0, hj, hy0, hy1, hy2⟩ := info_parts Tryz.info49
  have hlen := flat_len Lk.enc 3 (fun _ => rfl) (xs.drop (k + 1))
  rw [List.length_drop] at hlen
  have hcell : ∀ t, t < xs.length * 3 → (w.cell? ⟨g, t, none⟩).isSome = true := fun t ht => by
    rw [h.cellAt t ht, List.getElem?_eq_getElem (by rw [h.1]; omega)]; rfl
  have hsrc : ∀ t u, ((xs.drop (k + 1)).flatMap Lk.enc)[t]? = some u → w.cell? ⟨g, (k + 1) * 3 + t, none⟩ = some u := fun t u hu => by
    have ht := (List.getElem?_eq_some_iff.1 hu).1
    rw [h.cellAt ((k + 1) * 3 + t) (by omega)]
    have e : xs.flatMap Lk.enc = (xs.take (k + 1)).flatMap Lk.enc ++ (xs.drop (k + 1)).flatMap Lk.enc := by rw [← List.flatMap_append, List.take_append_drop]
    have l1 := flat_len Lk.enc 3 (fun _ => rfl) (xs.take (k + 1))
    rw [List.length_take, Nat.min_eq_left (by omega)] at l1
    rw [e, List.getElem?_append_right (by omega), ← hu]
    congr 1
    omega
  obtain ⟨A, hA, hsA⟩ : ∃ A : Addr, (if cap = k + 1 then some (⟨g, 0, none⟩ : Addr) else some ⟨g, (k + 1) * 3, none⟩) = some A ∧ Hid (∀ t u, ((xs.drop (k + 1)).flatMap Lk.enc)[t]? = some u → w.drew.cell? (A.add t) = some u) := by
    by_cases hq : cap = k + 1
    · refine ⟨⟨g, 0, none⟩, by simp [hq], fun t u hu => ?_⟩
      have := (List.getElem?_eq_some_iff.1 hu).1
      omega
    · refine ⟨⟨g, (k + 1) * 3, none⟩, by simp [hq], fun t u hu => ?_⟩
      rw [Addr.add_lit]
      exact hsrc t u hu
  have s1 := Lib.hid (show ((xs.drop (k + 1)).flatMap Lk.enc).length = (xs.length - (k + 1)) * 3 from hlen)
  have s2 := Lib.hid (lk_enc_one (xs.drop (k + 1)))
  have s3 := Lib.hid (show ∀ t, t < ((xs.drop (k + 1)).flatMap Lk.enc).length → (w.drew.cell? ⟨g, 0 + k * 3 + t, none⟩).isSome = true ∧ w.drew.frozen? ⟨g, 0 + k * 3 + t, none⟩ = false from fun t ht => ⟨hcell _ (by omega), h.frozenAt _⟩)
  obtain ⟨W1, hW1⟩ : ∃ W1, W1 = w.drew.setCells g (0 + k * 3) ((xs.drop (k + 1)).flatMap Lk.enc) := ⟨_, rfl⟩
  have hcl : ∀ ty, (Builtin.clear_ #[22] ty #[.slice (some ⟨g, (xs.length - 1) * 3, none⟩) 1 (cap - (xs.length - 1))]).run Tryz.prog W1 = .ok (.tuple #[]) (W1.setCells g ((xs.length - 1) * 3) [.int .i64 0, .int .i64 0, .int .u8 0]) := fun ty => run_clear_lk W1 g _ _ ty (fun j hj => by
      rw [hW1]
      refine World.isSome_setCells g _ _ _ _ ?_
      exact hcell _ (by omega)) (fun j hj => by rw [hW1, World.frozen?_setCells]; exact h.frozenAt _)
  have hdone := delete_done (w := w.drew) (k := k) (World.ownsRow.drew h) hk [.int .i64 0, .int .i64 0, .int .u8 0] rfl
  rw [show k * 3 = 0 + k * 3 by omega, ← hW1] at hdone
  have HD := Lib.hid hdone
  have HW := Lib.hid hW1
  have JI := Lib.hid hj; have J1 := Lib.hid hy1
  have HB0 := Lib.hid ((Below.refl base w).drew)
  clear hdone hW1 hj hy0 hy1 hy2 hlen hcell hsrc h hcap
  generalize (xs.drop (k + 1)).flatMap Lk.enc = news at *
  generalize dropLks xs k = ds at *
  have mixed : Tryz.prog.follows Departure.mixedOrders = true := by kernel_rfl
  obtain ⟨m, hm1⟩ : ∃ m, xs.length = k + 1 + m := ⟨xs.length - (k + 1), by omega⟩
  generalize xs.length = n at *
  have e1 : n - (k + 1) = m := by omega
  have e2 : n - 1 = k + m := by omega
  have e3 : n - (k + m) = 1 := by omega
  rw [e1] at s1
  rw [e2] at hcl HD ⊢
  have hk0 : (0 : Int) ≤ (k : Int) + 1 := by omega
  have hk1 : (k : Int) + 1 ≤ (n : Int) := by omega
  have hkmn : k + m ≤ n := by omega
  have hkmi : (k : Int) + (m : Int) ≤ (n : Int) := by omega
  have hkm0 : (0 : Int) ≤ (k : Int) + (m : Int) := by omega
  have hnc : n ≤ cap := hc1
  have HM1 := Lib.hid hm1
  clear hm1
  have hic : k ≤ cap := by omega
  have hjc : k + 1 ≤ cap := by omega
  have hkm : k + m ≤ cap := by omega
  have hkm2 : ¬ cap = k + m := by omega
  have hcm : cap ≤ maxLen := by unfold maxLen; omega
  go_enter Tryz.func49, Tryz.ntmps49
  go_wp2_with fail
  go_region_law_o (refine step_append_room rfl (.tmp 22) (.tmp 25) 22 rfl 49 j0 3 Tryz.underlying22 JI.out J1.out g 0 k cap (by simp [Act.eval, Act.put]) A m (cap - (k + 1)) news (by simp [Act.eval, Act.put]) s1.out hsA.out s2.out (by omega) s3.out ?_; rw [← HW.out])
  go_wp2_with fail
  go_ret
  exact ⟨rfl, HD.out.1, HB0.out.trans HD.out.2⟩

end Go.Proofs.YtdgakmpopgpijaaGreatDoor
