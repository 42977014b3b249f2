/- slices.Insert of one element at regions, events and comments. (printed by gen_insert.py) -/
import Derived.Shelf.Spec.SlicesInsertGrow
import Derived.Test.YtnlnmbcaongehaaGreatDoorBase10
import Derived.Test.YtnlnmbcaongehaaGreatDoorBase04
set_option linter.unusedVariables false
set_option linter.unusedSimpArgs false
namespace Go.Proofs.YtnlnmbcaongehaaGreatDoor
open Go.RowKit Go.Lib
theorem sliceOf_flat {α : Type} {K : Nat} {enc : α → List Value} (hk : ∀ x, (enc x).length = K) {w : World} {b off : Nat} {xs : List α} (hb : b < w.heap.size) (h : ∀ j u, (xs.flatMap enc)[j]? = some u → w.cell? ⟨b, off + j, none⟩ = some u) : SliceOf K enc Flat w (some ⟨b, off, none⟩) xs :=
  .inr ⟨b, off, rfl, hb, fun i x hx => ⟨fun j v hv => by
    have := h _ _ (flat_at enc K hk xs i x j v hx hv)
    rwa [← Nat.add_assoc] at this, trivial⟩⟩
/-- A list with an element put in at a place. -/
def insAt {α : Type} (xs : List α) (k : Nat) (x : α) : List α := xs.take k ++ [x] ++ xs.drop k
theorem insAt_len {α : Type} (xs : List α) (k : Nat) (x : α) (hk : k ≤ xs.length) : (insAt xs k x).length = xs.length + 1 := by
  unfold insAt
  simp
  omega
theorem insAt_end {α : Type} (xs : List α) (x : α) : insAt xs xs.length x = xs ++ [x] := by simp [insAt]
theorem insAt_flat {α : Type} (enc : α → List Value) (xs : List α) (k : Nat) (x : α) : (insAt xs k x).flatMap enc = (xs.take k).flatMap enc ++ enc x ++ (xs.drop k).flatMap enc := by simp [insAt]
theorem three_get {L1 V L2 : List Value} {j : Nat} {u : Value} (h : (L1 ++ V ++ L2)[j]? = some u) : L1[j]? = some u ∨ (L1.length ≤ j ∧ V[j - L1.length]? = some u) ∨ (L1.length + V.length ≤ j ∧ L2[j - (L1.length + V.length)]? = some u) := by
  by_cases h1 : j < L1.length
  · rw [List.append_assoc, List.getElem?_append_left h1] at h
    exact .inl h
  · by_cases h2 : j < L1.length + V.length
    · rw [List.getElem?_append_left (by rw [List.length_append]; omega), List.getElem?_append_right (by omega)] at h
      exact .inr (.inl ⟨by omega, h⟩)
    · rw [List.getElem?_append_right (by rw [List.length_append]; omega), List.length_append] at h
      exact .inr (.inr ⟨by omega, h⟩)
theorem set_get {W : World} {g o : Nat} {V : List Value} (hs : ∀ j, j < V.length → (W.cell? ⟨g, o + j, none⟩).isSome = true) (t : Nat) (u : Value) (hu : V[t]? = some u) : (W.setCells g o V).cell? ⟨g, o + t, none⟩ = some u := by
  have ht := (List.getElem?_eq_some_iff.1 hu).1
  rw [World.cell?_setCells_in g V o W hs t ht, ← hu, List.getElem?_eq_getElem ht]
/-- The tail moved up, then the new element. -/
theorem shift_cells {W : World} {g : Nat} {L1 V L2 : List Value} (h1 : ∀ j u, L1[j]? = some u → W.cell? ⟨g, 0 + j, none⟩ = some u) (hs : ∀ j, j < L1.length + V.length + L2.length → (W.cell? ⟨g, j, none⟩).isSome = true) :
    ∀ j u, (L1 ++ V ++ L2)[j]? = some u → ((W.setCells g (L1.length + V.length) L2).setCells g L1.length V).cell? ⟨g, 0 + j, none⟩ = some u := by
  intro j u hu
  have hs1 : ∀ j, j < V.length → ((W.setCells g (L1.length + V.length) L2).cell? ⟨g, L1.length + j, none⟩).isSome = true := fun j hj => Lib.isSome_setCells g _ _ _ _ (hs _ (by omega))
  rcases three_get hu with h | ⟨hl, h⟩ | ⟨hl, h⟩
  · have hj := (List.getElem?_eq_some_iff.1 h).1
    rw [World.cell?_setCells_out g V _ _ _ (fun _ _ => .inl (by simp only; omega)), World.cell?_setCells_out g L2 _ _ _ (fun _ _ => .inl (by simp only; omega))]
    exact h1 j u h
  · have := set_get hs1 (j - L1.length) u h
    rwa [show L1.length + (j - L1.length) = 0 + j by omega] at this
  · have hj := (List.getElem?_eq_some_iff.1 h).1
    rw [World.cell?_setCells_out g V _ _ _ (fun _ _ => .inr (by simp only; omega))]
    have := set_get (W := W) (g := g) (o := L1.length + V.length) (V := L2) (fun t ht => hs _ (by omega)) (j - (L1.length + V.length)) u h
    rwa [show L1.length + V.length + (j - (L1.length + V.length)) = 0 + j by omega] at this
/-- The new element, then the tail. -/
theorem grow_cells {W : World} {g : Nat} {L1 V L2 : List Value} (h1 : ∀ j u, L1[j]? = some u → W.cell? ⟨g, 0 + j, none⟩ = some u) (hs : ∀ j, j < L1.length + V.length + L2.length → (W.cell? ⟨g, j, none⟩).isSome = true) :
    ∀ j u, (L1 ++ V ++ L2)[j]? = some u → ((W.setCells g L1.length V).setCells g (L1.length + V.length) L2).cell? ⟨g, 0 + j, none⟩ = some u := by
  intro j u hu
  have hs1 : ∀ j, j < L2.length → ((W.setCells g L1.length V).cell? ⟨g, L1.length + V.length + j, none⟩).isSome = true := fun j hj => Lib.isSome_setCells g _ _ _ _ (hs _ (by omega))
  rcases three_get hu with h | ⟨hl, h⟩ | ⟨hl, h⟩
  · have hj := (List.getElem?_eq_some_iff.1 h).1
    rw [World.cell?_setCells_out g L2 _ _ _ (fun _ _ => .inl (by simp only; omega)), World.cell?_setCells_out g V _ _ _ (fun _ _ => .inl (by simp only; omega))]
    exact h1 j u h
  · have hj := (List.getElem?_eq_some_iff.1 h).1
    rw [World.cell?_setCells_out g L2 _ _ _ (fun _ _ => .inl (by simp only; omega))]
    have := set_get (W := W) (g := g) (o := L1.length) (V := V) (fun t ht => hs _ (by omega)) (j - L1.length) u h
    rwa [show L1.length + (j - L1.length) = 0 + j by omega] at this
  · have := set_get hs1 (j - (L1.length + V.length)) u h
    rwa [show L1.length + V.length + (j - (L1.length + V.length)) = 0 + j by omega] at this
theorem run_copy_k {P : Program} (w : World) (dT sT ty elem : TypeId) (K b o dLen dCap : Nat) (a : Addr) (sLen sCap n : Nat) (cs : List Value)
    (hu : P.underlying dT = some (.slice elem)) (hs : (P.info? elem).map (·.size) = some K) (hn : Nat.min sLen dLen = n) (hl : cs.length = n * K)
    (hsrc : ∀ j v, cs[j]? = some v → w.cell? (a.add j) = some v) (hc : ∀ j, j < cs.length → (w.cell? ⟨b, o + j, none⟩).isSome = true) (hf : ∀ j, j < cs.length → w.frozen? ⟨b, o + j, none⟩ = false) (h1 : ∀ v ∈ cs, v.oneCell' = true) :
    (Builtin.copy_ #[dT, sT] ty #[.slice (some ⟨b, o, none⟩) dLen dCap, .slice (some a) sLen sCap]).run P w = .ok (goInt n) (w.setCells b o cs) := by
  have hld := run_loadCells_list (P := P) w a cs hsrc
  have hst := run_storeCells_cells (P := P) b o cs 0 w (by simpa using hc) (by simpa using hf) h1
  cases hq : P.info? elem with
  | none => simp [hq] at hs
  | some i =>
    have hi : i.size = K := by simpa [hq] using hs
    rw [hl] at hld
    simp [Builtin.copy_, run_underlying hu, Builtin.lenOf, Builtin.firstCells, sizeOf, typeInfo, hq, hi, hn, hld, hst]
theorem cell_drew_set (w : World) (o : Obj) (g a : Nat) (xe : List Value) : ∀ y, (((w.alloc o).drew.setCells g a xe).drew).cell? y = ((w.drew.alloc o).setCells g a xe).cell? y := fun y => rfl
theorem frz_drew_set (w : World) (o : Obj) (g a : Nat) (xe : List Value) : ∀ y, (((w.alloc o).drew.setCells g a xe).drew).frozen? y = ((w.drew.alloc o).setCells g a xe).frozen? y := fun y => rfl
/-- The list with the element put in, in memory of the call's own. -/
def InsPost {α : Type} (K : Nat) (enc : α → List Value) (base : Nat) (ys : List α) (w : World) (e : Ending) (w' : World) : Prop := ∃ a c, e = .returned (.slice a ys.length c) ∧ SliceOf K enc Flat w' a ys ∧ (∀ ad, a = some ad → base ≤ ad.block) ∧ Below base w w'
set_option maxRecDepth 100000 in
set_option maxHeartbeats 4000000 in
theorem insertReg_nil (base : Nat) (x : Reg) (g c : Nat) (w : World) (hv : SliceOf 7 Reg.enc Flat w (some ⟨g, 0, none⟩) [x]) (hb : base ≤ w.heap.size) :
    Calls Tryz.prog 184 #[.slice none 0 0, .int .i64 0, .slice (some ⟨g, 0, none⟩) 1 c] w (InsPost 7 Reg.enc base [x] w) := by
  have HQ := Lib.hid (fun (v' : Value) (w' : World) (ho : w'.ownsRow base 44 7 v' (0 + [x].length) ([] ++ [x].flatMap Reg.enc)) (hg : w.grownBy w' (Value.slice none 0 0).ownBlock) => (show InsPost 7 Reg.enc base [x] w (.returned v') w' from by
    obtain ⟨a, c, rfl, hS⟩ := sliceOf_owns (k := 7) (enc := Reg.enc) (Ok := Flat) (xs := [x]) (fun _ => rfl) ho (fun _ _ => trivial)
    exact ⟨a, c, rfl, hS, fun ad had => (ho.lt ad.block (by rw [had]; rfl)).1, (Below.refl base w).grown hg hb (fun j hj => by simp [Value.ownBlock] at hj)⟩))
  obtain ⟨j0, hj, hy0, hy1, hy2⟩ := info_parts Tryz.info44
  have JI := Lib.hid hj; have J0 := Lib.hid hy0; have J1 := Lib.hid hy1; have J2 := Lib.hid hy2
  have HV := Lib.hid hv
  clear hj hy0 hy1 hy2 hv
  generalize InsPost 7 Reg.enc base [x] w = Q at *
  go_enter Tryz.func184, Tryz.ntmps184
  go_wp2_with (at_builtin; refine wpList_append_slice (enc := Reg.enc) (Ok := Flat) _ rfl (.tmp 23) (.tmp 24) 23 rfl base 44 j0 _ 7 56 Tryz.underlying23 JI.out J0.out J1.out J2.out rfl (by decide) (fun _ => rfl) Reg.one _ 0 [] rfl (World.ownsRow_nil _ _ _ _) (some ⟨g, 0, none⟩) c [x] rfl HV.out ?h63 ?hb ?hbase ?_)
  case h63 => simp only [List.length_cons, List.length_nil]; unfold maxLen; omega
  case hb => simp only [List.length_cons, List.length_nil]; omega
  case hbase => exact hb
  intro v' w' ho hg _
  have HF := Lib.hid (HQ.out v' w' ho hg)
  obtain ⟨a', c', rfl⟩ : ∃ a' c', v' = .slice a' 1 c' := by
    rcases ho.2 with ⟨rfl, h0⟩ | ⟨g, cap, _, rfl, _⟩
    · simp at h0
    · exact ⟨_, _, rfl⟩
  clear ho hg
  go_wp2_with fail
  exact HF.out
set_option maxRecDepth 100000 in
set_option maxHeartbeats 4000000 in
theorem insertReg_end (base b cap : Nat) (xs : List Reg) (x : Reg) (g c : Nat) (w : World) (h : w.ownsRow base 44 7 (.slice (some ⟨b, 0, none⟩) xs.length cap) xs.length (xs.flatMap Reg.enc)) (hv : SliceOf 7 Reg.enc Flat w (some ⟨g, 0, none⟩) [x]) (hl : xs.length ≤ 8000000) (hb : base ≤ w.heap.size) :
    Calls Tryz.prog 184 #[.slice (some ⟨b, 0, none⟩) xs.length cap, .int .i64 xs.length, .slice (some ⟨g, 0, none⟩) 1 c] w (InsPost 7 Reg.enc base (xs ++ [x]) w) := by
  have HQ := Lib.hid (fun (cp : Nat) (v' : Value) (w' : World) (ho : w'.ownsRow base 44 7 v' (xs.length + 1) (xs.flatMap Reg.enc ++ [x].flatMap Reg.enc)) (hg : w.grownBy w' (Value.slice (some ⟨b, 0, none⟩) xs.length cp).ownBlock) => (show InsPost 7 Reg.enc base (xs ++ [x]) w (.returned v') w' from by
    rw [← List.flatMap_append] at ho
    rw [show xs.length + 1 = (xs ++ [x]).length by simp] at ho
    obtain ⟨a, c, rfl, hS⟩ := sliceOf_owns (k := 7) (enc := Reg.enc) (Ok := Flat) (fun _ => rfl) ho (fun _ _ => trivial)
    exact ⟨a, c, rfl, hS, fun ad had => (ho.lt ad.block (by rw [had]; rfl)).1, (Below.refl base w).grown hg hb (fun j hj => (h.lt j hj).1)⟩))
  obtain ⟨j0, hj, hy0, hy1, hy2⟩ := info_parts Tryz.info44
  have JI := Lib.hid hj; have J0 := Lib.hid hy0; have J1 := Lib.hid hy1; have J2 := Lib.hid hy2
  have HO := Lib.hid h
  have HV := Lib.hid hv
  have hca : xs.length ≤ cap := by
    rcases h.2 with ⟨he, h0⟩ | ⟨g, cap, _, he, _, _, hc, _⟩
    · simp at he
    · simp only [Value.slice.injEq] at he
      obtain ⟨_, _, rfl⟩ := he
      exact hc
  have hcm : (cap : Int) ≤ 9223372036854775807 := by
    rcases h.2 with ⟨he, h0⟩ | ⟨g, cap, _, he, _, _, hc, hm, _⟩
    · simp at he
    · simp only [Value.slice.injEq] at he
      obtain ⟨_, _, rfl⟩ := he
      simp only [maxLen] at hm
      omega
  clear hj hy0 hy1 hy2 h hv
  generalize InsPost 7 Reg.enc base (xs ++ [x]) w = Q at *
  generalize xs.flatMap Reg.enc = cs at *
  generalize xs.length = n at *
  rcases (show cap = n ∨ ¬ cap = n from Classical.em _) with hq | hq
  case' inl => subst hq
  all_goals
    go_enter Tryz.func184, Tryz.ntmps184
    go_wp2_with (at_builtin; refine wpList_append_slice (enc := Reg.enc) (Ok := Flat) _ rfl (.tmp 23) (.tmp 24) 23 rfl base 44 j0 _ 7 56 Tryz.underlying23 JI.out J0.out J1.out J2.out rfl (by decide) (fun _ => rfl) Reg.one _ _ cs rfl HO.out (some ⟨g, 0, none⟩) c [x] rfl HV.out ?h63 ?hb ?hbase ?_)
    case h63 => simp only [List.length_cons, List.length_nil]; unfold maxLen; omega
    case hb => simp only [List.length_cons, List.length_nil]; omega
    case hbase => exact hb
    intro v' w' ho hg _
    have HF := Lib.hid (HQ.out _ v' w' ho hg)
    obtain ⟨g', c', rfl⟩ := ownForm ho (by simp)
    clear ho hg
    go_wp2_with fail
    exact HF.out
set_option maxRecDepth 100000 in
set_option maxHeartbeats 8000000 in
theorem insertReg_shift (base b i g cap vc : Nat) (xs : List Reg) (x : Reg) (w : World) (h : w.ownsRow base 44 7 (.slice (some ⟨b, 0, none⟩) xs.length cap) xs.length (xs.flatMap Reg.enc)) (hv : w.heap[g]? = some (.cells x.enc.toArray 44 (0, 0))) (hi : i < xs.length) (hroom : xs.length + 1 ≤ cap) (hgb : g ≠ b) (hl : xs.length ≤ 8000000) (hbw : base ≤ w.heap.size) :
    Calls Tryz.prog 184 #[.slice (some ⟨b, 0, none⟩) xs.length cap, .int .i64 i, .slice (some ⟨g, 0, none⟩) 1 vc] w (InsPost 7 Reg.enc base (insAt xs i x) w) := by
  obtain ⟨hbb, hbl⟩ := h.lt b rfl
  have hc63 : cap ≤ 9223372036854775807 := by
    rcases h.2 with ⟨he, h0⟩ | ⟨g, cap, _, he, _, _, hc, hm, _⟩
    · simp at he
    · simp only [Value.slice.injEq] at he
      obtain ⟨_, _, rfl⟩ := he
      simp only [maxLen] at hm
      omega
  obtain ⟨cur, hcur, hcs⟩ : ∃ cur, w.heap[b]? = some (.cells cur 44 (0, 0)) ∧ (xs.length + 1) * 7 ≤ cur.size := by
    rcases h.2 with ⟨he, h0⟩ | ⟨g, cap, cur, he, _, hg, hc, hm, hz, _⟩
    · simp at he
    · simp only [Value.slice.injEq, Option.some.injEq, Addr.mk.injEq, and_true, true_and] at he
      obtain ⟨rfl, rfl⟩ := he
      exact ⟨cur, hg, by first | (rw [hz]; exact Nat.mul_le_mul_right 7 hroom) | (rw [← hz]; exact Nat.mul_le_mul_right 7 hroom) | omega⟩
  have hfr : ∀ j, w.frozen? ⟨b, j, none⟩ = false := h.frozenAt
  have hcell : ∀ j u, (xs.flatMap Reg.enc)[j]? = some u → w.cell? ⟨b, j, none⟩ = some u := fun j u hu => by
    have hj := (List.getElem?_eq_some_iff.1 hu).1
    rw [h.cellAt j (by rw [← h.1]; exact hj)]
    exact hu
  have hspc : ∀ j, j < (xs.length + 1) * 7 → (w.cell? ⟨b, j, none⟩).isSome = true := fun j hj => by
    rw [cell_of_row w b j cur 44 (0, 0) hcur, Array.getElem?_eq_getElem (by omega)]; rfl
  have hvc : ∀ j u, x.enc[j]? = some u → w.cell? ⟨g, j, none⟩ = some u := fun j u hu => by
    rw [cell_of_row w g j _ 44 (0, 0) hv]
    simpa using hu
  have hsa : w.shape? g = some (44, 7) := by
    have : x.enc.toArray.size = 7 := rfl
    simp [World.shape?, hv, this]
  have hsb : w.shape? b = some (44, cur.size) := by simp [World.shape?, hcur]
  have hgf : ∀ j, w.frozen? ⟨g, j, none⟩ = false := fun j => by simp [World.frozen?, hv]
  have hz2 : ¬ ((i : Int) = (xs.length : Int)) := by omega
  have hsz : (Tryz.prog.info? 44).map (·.size) = some 7 := by kernel_rfl
  have hlen := flat_len Reg.enc 7 (fun _ => rfl) xs
  have hln1 := flat_len Reg.enc 7 (fun _ => rfl) (xs.take i)
  have hln2 := flat_len Reg.enc 7 (fun _ => rfl) (xs.drop i)
  rw [List.length_take, Nat.min_eq_left (by omega)] at hln1
  rw [List.length_drop] at hln2
  have hsplit : xs.flatMap Reg.enc = (xs.take i).flatMap Reg.enc ++ (xs.drop i).flatMap Reg.enc := by rw [← List.flatMap_append, List.take_append_drop]
  have hc1 : ∀ j u, ((xs.take i).flatMap Reg.enc)[j]? = some u → w.cell? ⟨b, j, none⟩ = some u := fun j u hu => hcell j u (by
    rw [hsplit, List.getElem?_append_left (List.getElem?_eq_some_iff.1 hu).1]; exact hu)
  have hc2 : ∀ j u, ((xs.drop i).flatMap Reg.enc)[j]? = some u → w.cell? ⟨b, i * 7 + j, none⟩ = some u := fun j u hu => hcell (i * 7 + j) u (by
    rw [hsplit, List.getElem?_append_right (by omega), hln1, Nat.add_sub_cancel_left]; exact hu)
  have ho2 : ∀ v ∈ (xs.drop i).flatMap Reg.enc, v.oneCell' = true := flat_one Reg.one _
  have hfl := insAt_flat Reg.enc xs i x
  have hil := insAt_len xs i x (by omega)
  have hxl : x.enc.length = 7 := rfl
  have hov : ∀ lb cb, (callFunc 245 #[.slice (some ⟨g, 0, none⟩) 1 vc, .slice (some ⟨b, (i + 1) * 7, none⟩) lb cb]).run Tryz.prog w = .ok (.value (.bool false)) w := fun lb cb => by
    rw [run_callFunc_extern Tryz.func245 (by kernel_rfl) (by kernel_rfl) (by kernel_rfl) (e := Extern.SlicesOverlaps.overlaps #[23, 23] #[4]) (by kernel_rfl),
      Lib.run_overlaps_apart w 23 4 44 Tryz.underlying23 7 (fun w => by kernel_rfl) ⟨g, 0, none⟩ ⟨b, (i + 1) * 7, none⟩ 1 vc lb cb hgb 44 44 7 cur.size hsa hsb (by omega) (hgf 0) (hgf 7)]
    rfl
  have hcp1 : ∀ ty dc sc, (Builtin.copy_ #[23, 23] ty #[.slice (some ⟨b, (i + 1) * 7, none⟩) (xs.length - i) dc, .slice (some ⟨b, i * 7, none⟩) (xs.length + 1 - i) sc]).run Tryz.prog w.drew = .ok (goInt (xs.length - i : Nat)) (w.drew.setCells b ((i + 1) * 7) ((xs.drop i).flatMap Reg.enc)) := fun ty dc sc =>
    run_copy_k w.drew _ _ ty 44 7 b ((i + 1) * 7) (xs.length - i) dc ⟨b, i * 7, none⟩ (xs.length + 1 - i) sc (xs.length - i) _ Tryz.underlying23 hsz (by simp only [Nat.min_def]; split <;> omega) hln2
      (fun j v hj => by rw [Addr.add_lit]; exact hc2 j v hj) (fun j hj => hspc _ (by omega)) (fun j hj => hfr _) ho2
  obtain ⟨W1, hW1⟩ : ∃ W1, W1 = w.drew.setCells b ((i + 1) * 7) ((xs.drop i).flatMap Reg.enc) := ⟨_, rfl⟩
  have hsp1 : ∀ k, k < (xs.length + 1) * 7 → (W1.cell? ⟨b, k, none⟩).isSome = true := fun k hk => by
    rw [hW1]
    exact Lib.isSome_setCells _ _ _ _ _ (hspc k hk)
  have hcp2 : ∀ (W : World), (∀ x, W.cell? x = W1.cell? x) → (∀ x, W.frozen? x = W1.frozen? x) → ∀ ty dc, (Builtin.copy_ #[23, 23] ty #[.slice (some ⟨b, i * 7, none⟩) (xs.length + 1 - i) dc, .slice (some ⟨g, 0, none⟩) 1 vc]).run Tryz.prog W = .ok (goInt (1 : Nat)) (W.setCells b (i * 7) x.enc) := fun W hWc hWf ty dc =>
    run_copy_k W _ _ ty 44 7 b (i * 7) (xs.length + 1 - i) dc ⟨g, 0, none⟩ 1 vc 1 _ Tryz.underlying23 hsz (by simp only [Nat.min_def]; split <;> omega) (by rw [hxl])
      (fun j v hj => by
        rw [Addr.add_lit, hWc, hW1, World.cell?_setCells_out b _ _ _ _ (fun h _ => absurd h hgb)]
        rw [Nat.zero_add]
        exact hvc j v hj)
      (fun j hj => by rw [hWc]; exact hsp1 _ (by omega)) (fun j hj => by rw [hWf, hW1, World.frozen?_setCells]; exact hfr _) (Reg.one x)
  rw [← hW1] at hcp1
  have HQ := Lib.hid (show InsPost 7 Reg.enc base (insAt xs i x) w (.returned (.slice (some ⟨b, 0, none⟩) (xs.length + 1) cap)) (W1.setCells b (i * 7) x.enc) from by
    have hbel : Below base w (W1.setCells b (i * 7) x.enc) := by
      rw [hW1]
      exact Lib.below_setCells b hbb _ _ (Lib.below_setCells b hbb _ _ (Below.refl base w).drew)
    refine ⟨some ⟨b, 0, none⟩, cap, by rw [hil], sliceOf_flat (enc := Reg.enc) (fun _ => rfl) ?_ ?_, fun ad had => ?_, hbel⟩
    · have := hbel.size
      have h2 := (Lib.below_setCells b (Nat.le_refl b) x.enc (i * 7) (Lib.below_setCells b (Nat.le_refl b) ((xs.drop i).flatMap Reg.enc) ((i + 1) * 7) (Below.refl b w).drew)).size
      rw [← hW1] at h2
      omega
    · rw [hfl, hW1]
      have := shift_cells (W := w.drew) (g := b) (L1 := (xs.take i).flatMap Reg.enc) (V := x.enc) (L2 := (xs.drop i).flatMap Reg.enc) (fun j u hu => by rw [Nat.zero_add]; exact hc1 j u hu) (fun j hj => hspc j (by rw [hln1, hln2, hxl] at hj; omega))
      rw [hln1, hxl, show i * 7 + 7 = (i + 1) * 7 by omega] at this
      exact this
    · obtain rfl := Option.some.inj had
      exact hbb)
  generalize InsPost 7 Reg.enc base (insAt xs i x) w = Q at *
  have hHOV := Lib.hid hov
  have mixed : Tryz.prog.follows Departure.mixedOrders = true := by kernel_rfl
  clear hfl hil hsplit hlen hln1 hln2 hc1 hc2 hcell hspc hvc hsa hsb hgf hfr hcs hcur h hv hsp1 hW1 hov
  generalize (xs.drop i).flatMap Reg.enc = ds at *
  generalize x.enc = xe at *
  generalize xs.length = n at *
  have hw1 : IntKind.i64.wrap ((i : Int) + 1) = (i : Int) + 1 := by rw [IntKind.wrap_i64]; omega
  have hw2 : IntKind.i64.wrap ((n : Int) + 1) = (n : Int) + 1 := by rw [IntKind.wrap_i64]; omega
  have hb1 : (0 : Int) ≤ (i : Int) + 1 := by omega
  have hin : i ≤ n := by omega
  have htn : ((i : Int) + 1).toNat = i + 1 := by omega
  have htm : ((n : Int) + 1).toNat = n + 1 := by omega
  have hb2 : ¬ (cap = i + 1) := by omega
  have hb3 : (i : Int) ≤ (n : Int) + 1 := by omega
  have hb4 : ¬ (cap = i) := by omega
  have HCP1 := Lib.hid hcp1
  have HCP2 := Lib.hid hcp2
  clear hcp1 hcp2
  go_enter Tryz.func184, Tryz.ntmps184
  go_wp2_with (simp only [hHOV.out])
  go_region_law_o (refine step_copy_runI rfl _ _ 23 23 rfl (.slice (some ⟨b, (i + 1) * 7, none⟩) (n - i) (cap - (i + 1))) (.slice (some ⟨b, i * 7, none⟩) (n + 1 - i) (cap - i)) (by simp [Act.eval, Act.put]) (by simp [Act.eval, Act.put]) (HCP1.out 3 (cap - (i + 1)) (cap - i)) ?_)
  go_wp2_with (refine wpList_copy_runI _ rfl _ _ 23 23 rfl _ _ rfl rfl (HCP2.out _ (fun _ => rfl) (fun _ => rfl) _ _) ?_)
  exact HQ.out
set_option maxRecDepth 100000 in
set_option maxHeartbeats 8000000 in
theorem insertReg_grow (base b i g cap vc : Nat) (xs : List Reg) (x : Reg) (w : World) (h : w.ownsRow base 44 7 (.slice (some ⟨b, 0, none⟩) xs.length cap) xs.length (xs.flatMap Reg.enc)) (hv : w.heap[g]? = some (.cells x.enc.toArray 44 (0, 0))) (hi : i < xs.length) (hroom : cap < xs.length + 1) (hl : xs.length ≤ 8000000) (hbw : base ≤ w.heap.size) :
    Calls Tryz.prog 184 #[.slice (some ⟨b, 0, none⟩) xs.length cap, .int .i64 i, .slice (some ⟨g, 0, none⟩) 1 vc] w (InsPost 7 Reg.enc base (insAt xs i x) w) := by
  obtain ⟨hbb, hbl⟩ := h.lt b rfl
  have hnc : xs.length ≤ cap := by
    rcases h.2 with ⟨he, h0⟩ | ⟨g, cap, cur, he, _, hg, hc, hm, hz, _⟩
    · simp at he
    · simp only [Value.slice.injEq, Option.some.injEq, Addr.mk.injEq, and_true, true_and] at he
      obtain ⟨rfl, rfl⟩ := he
      exact hc
  have hcell : ∀ j u, (xs.flatMap Reg.enc)[j]? = some u → w.cell? ⟨b, j, none⟩ = some u := fun j u hu => by
    have hj := (List.getElem?_eq_some_iff.1 hu).1
    rw [h.cellAt j (by rw [← h.1]; exact hj)]
    exact hu
  have hvc : ∀ j u, x.enc[j]? = some u → w.cell? ⟨g, j, none⟩ = some u := fun j u hu => by
    rw [cell_of_row w g j _ 44 (0, 0) hv]
    simpa using hu
  have hvw : g < w.heap.size := (Array.getElem?_eq_some_iff.1 hv).1
  obtain ⟨i0, hi0, hz0, hzs, hzb⟩ := info_parts Tryz.info44
  have hz2 : ¬ ((i : Int) = (xs.length : Int)) := by omega
  have hz3 : (cap : Int) < (xs.length : Int) + 1 := by omega
  have hsz : (Tryz.prog.info? 44).map (·.size) = some 7 := by kernel_rfl
  have hln1 := flat_len Reg.enc 7 (fun _ => rfl) (xs.take i)
  have hln2 := flat_len Reg.enc 7 (fun _ => rfl) (xs.drop i)
  rw [List.length_take, Nat.min_eq_left (by omega)] at hln1
  rw [List.length_drop] at hln2
  have hsplit : xs.flatMap Reg.enc = (xs.take i).flatMap Reg.enc ++ (xs.drop i).flatMap Reg.enc := by rw [← List.flatMap_append, List.take_append_drop]
  have hc1 : ∀ j u, ((xs.take i).flatMap Reg.enc)[j]? = some u → w.cell? ⟨b, j, none⟩ = some u := fun j u hu => hcell j u (by
    rw [hsplit, List.getElem?_append_left (List.getElem?_eq_some_iff.1 hu).1]; exact hu)
  have hc2 : ∀ j u, ((xs.drop i).flatMap Reg.enc)[j]? = some u → w.cell? ⟨b, i * 7 + j, none⟩ = some u := fun j u hu => hcell (i * 7 + j) u (by
    rw [hsplit, List.getElem?_append_right (by omega), hln1, Nat.add_sub_cancel_left]; exact hu)
  have hfl := insAt_flat Reg.enc xs i x
  have hil := insAt_len xs i x (by omega)
  have hxl : x.enc.length = 7 := rfl
  have hkk : (xs.length : Int) + 1 - (i : Int) = ((xs.length + 1 - i : Nat) : Int) := by omega
  have hik : i + (xs.length + 1 - i) = xs.length + 1 := by omega
  have hold : (Builtin.firstCells i0.size i (.slice (some ⟨b, 0, none⟩) i cap)).run Tryz.prog w.drew = .ok ((xs.take i).flatMap Reg.enc).toArray w.drew := by
    rw [hzs]
    exact run_firstCells_some w.drew 7 i ⟨b, 0, none⟩ i cap _ hln1 (fun j v hj => by
      rw [Addr.add_lit, Nat.zero_add]
      exact hc1 j v hj)
  have hbig : (xs.length + 1) * 56 ≤ 140737488355328 := by omega
  have hrz : ∀ ty, (Builtin.append_ #[23, 3] ty #[.slice (some ⟨b, 0, none⟩) i cap, .int .i64 ((xs.length : Int) + 1 - (i : Int))]).run Tryz.prog w =
      .ok (.slice (some ⟨w.heap.size, 0, none⟩) (xs.length + 1) (grownCap w (xs.length + 1) cap 44)) (w.drew.alloc (.cells (((xs.take i).flatMap Reg.enc).toArray ++ Builtin.zeroCells (Value.agg #[.string ⟨#[]⟩, .int .i64 0, .int .i64 0, .int .i64 0, .int .i64 0, .int .u8 0, .bool false]).cells (xs.length + 1 - i) ++ Builtin.zeroCells (Value.agg #[.string ⟨#[]⟩, .int .i64 0, .int .i64 0, .int .i64 0, .int .i64 0, .int .u8 0, .bool false]).cells (grownCap w (xs.length + 1) cap 44 - (xs.length + 1))) 44)) := fun ty => by
    have h := Lib.run_append_grow_zeros w 23 3 ty 44 i0 _ .i64 .i64 Tryz.underlying23 Tryz.underlying3 hi0 hz0 (some ⟨b, 0, none⟩) i cap _ hold (xs.length + 1 - i) (by omega) (by omega) (by omega) (by omega) (by rw [hzb]; omega) (by rw [hzb, hik]; exact growslice_fits hroom hbig)
    rw [hik] at h
    rw [hkk]
    exact h
  obtain ⟨G, hG⟩ : ∃ G, G = grownCap w (xs.length + 1) cap 44 := ⟨_, rfl⟩
  obtain ⟨ROW, hROW⟩ : ∃ ROW : Array Value, ROW = ((xs.take i).flatMap Reg.enc).toArray ++ Builtin.zeroCells (Value.agg #[.string ⟨#[]⟩, .int .i64 0, .int .i64 0, .int .i64 0, .int .i64 0, .int .u8 0, .bool false]).cells (xs.length + 1 - i) ++ Builtin.zeroCells (Value.agg #[.string ⟨#[]⟩, .int .i64 0, .int .i64 0, .int .i64 0, .int .i64 0, .int .u8 0, .bool false]).cells (G - (xs.length + 1)) := ⟨_, rfl⟩
  rw [← hG] at hrz
  rw [← hROW] at hrz
  have hRl : (xs.length + 1) * 7 ≤ ROW.size := by
    rw [hROW]
    simp [Builtin.zeroCells, Value.cells, hln1]
    omega
  have hR1 : ∀ j u, ((xs.take i).flatMap Reg.enc)[j]? = some u → ROW[j]? = some u := fun j u hu => by
    have hj := (List.getElem?_eq_some_iff.1 hu).1
    rw [hROW, Array.append_assoc, Array.getElem?_append_left (by simpa using hj)]
    simpa using hu
  obtain ⟨W1, hW1⟩ : ∃ W1, W1 = w.drew.alloc (.cells ROW 44) := ⟨_, rfl⟩
  rw [← hW1] at hrz
  have hN : ∀ j, j < (xs.length + 1) * 7 → (W1.cell? ⟨w.heap.size, j, none⟩).isSome = true := fun j hj => by
    rw [hW1, World.cell?_alloc_at (w := w.drew) ROW _ w.heap.size j rfl, Array.getElem?_eq_getElem (by omega)]; rfl
  have hN1 : ∀ j u, ((xs.take i).flatMap Reg.enc)[j]? = some u → W1.cell? ⟨w.heap.size, j, none⟩ = some u := fun j u hu => by
    rw [hW1, World.cell?_alloc_at (w := w.drew) ROW _ w.heap.size j rfl]; exact hR1 j u hu
  have hNf : ∀ j, W1.frozen? ⟨w.heap.size, j, none⟩ = false := fun j => by rw [hW1]; exact World.frozen?_alloc_at (w := w.drew) ROW _ w.heap.size j rfl
  have hOb : ∀ j v, w.cell? ⟨b, j, none⟩ = some v → W1.cell? ⟨b, j, none⟩ = some v := fun j v h => by rw [hW1, World.cell?_alloc_past (w := w.drew) _ b j hbl]; exact h
  have hOv : ∀ j v, w.cell? ⟨g, j, none⟩ = some v → W1.cell? ⟨g, j, none⟩ = some v := fun j v h => by rw [hW1, World.cell?_alloc_past (w := w.drew) _ g j hvw]; exact h
  have hcpA : ∀ (W : World), (∀ x, W.cell? x = W1.cell? x) → (∀ x, W.frozen? x = W1.frozen? x) → ∀ ty dc, (Builtin.copy_ #[23, 23] ty #[.slice (some ⟨w.heap.size, i * 7, none⟩) (xs.length + 1 - i) dc, .slice (some ⟨g, 0, none⟩) 1 vc]).run Tryz.prog W = .ok (goInt (1 : Nat)) (W.setCells w.heap.size (i * 7) x.enc) := fun W hWc hWf ty dc =>
    run_copy_k W _ _ ty 44 7 w.heap.size (i * 7) (xs.length + 1 - i) dc ⟨g, 0, none⟩ 1 vc 1 _ Tryz.underlying23 hsz (by simp only [Nat.min_def]; split <;> omega) (by rw [hxl])
      (fun j v hj => by rw [Addr.add_lit, hWc, Nat.zero_add]; exact hOv _ v (hvc j v hj))
      (fun j hj => by rw [hWc]; exact hN _ (by omega)) (fun j hj => by rw [hWf]; exact hNf _) (Reg.one x)
  have hGn : xs.length + 1 ≤ G := by rw [hG]; exact grownCap_ge w _ _ _
  have hG63 : G ≤ 9223372036854775807 := by
    have := grownCap_le_maxLen w (xs.length + 1) cap 44 (by unfold maxLen; omega)
    rw [← hG] at this
    unfold maxLen at this
    omega
  have hGi : ¬ (G = i) := by omega
  have hGim : ¬ (G = i + 1) := by omega
  have hci : ¬ (cap = i) := by omega
  have hbN : b ≠ w.heap.size := by omega
  have hcpB : ∀ (W : World), (∀ y, W.cell? y = (W1.setCells w.heap.size (i * 7) x.enc).cell? y) → (∀ y, W.frozen? y = (W1.setCells w.heap.size (i * 7) x.enc).frozen? y) → ∀ ty dc sc, (Builtin.copy_ #[23, 23] ty #[.slice (some ⟨w.heap.size, (i + 1) * 7, none⟩) (xs.length - i) dc, .slice (some ⟨b, i * 7, none⟩) (xs.length - i) sc]).run Tryz.prog W = .ok (goInt (xs.length - i : Nat)) (W.setCells w.heap.size ((i + 1) * 7) ((xs.drop i).flatMap Reg.enc)) := fun W hWc hWf ty dc sc =>
    run_copy_k W _ _ ty 44 7 w.heap.size ((i + 1) * 7) (xs.length - i) dc ⟨b, i * 7, none⟩ (xs.length - i) sc (xs.length - i) _ Tryz.underlying23 hsz (by simp only [Nat.min_def]; split <;> omega) hln2
      (fun j v hj => by
        rw [Addr.add_lit, hWc, World.cell?_setCells_out _ _ _ _ _ (fun h _ => absurd h hbN)]
        exact hOb _ v (hc2 j v hj))
      (fun j hj => by rw [hWc]; exact Lib.isSome_setCells _ _ _ _ _ (hN _ (by omega)))
      (fun j hj => by rw [hWf, World.frozen?_setCells]; exact hNf _) (flat_one Reg.one _)
  have HQ := Lib.hid (fun (W : World) (hW : W.heap = W1.heap) (hbel : Below base w W) => (show InsPost 7 Reg.enc base (insAt xs i x) w (.returned (.slice (some ⟨w.heap.size, 0, none⟩) (xs.length + 1) G)) ((W.setCells w.heap.size (i * 7) x.enc).setCells w.heap.size ((i + 1) * 7) ((xs.drop i).flatMap Reg.enc)) from by
    have hWc : ∀ y, W.cell? y = W1.cell? y := fun y => by simp [World.cell?, hW]
    have hb2 : Below base w ((W.setCells w.heap.size (i * 7) x.enc).setCells w.heap.size ((i + 1) * 7) ((xs.drop i).flatMap Reg.enc)) := Lib.below_setCells _ hbw _ _ (Lib.below_setCells _ hbw _ _ hbel)
    refine ⟨some ⟨w.heap.size, 0, none⟩, G, by rw [hil], sliceOf_flat (enc := Reg.enc) (fun _ => rfl) ?_ ?_, fun ad had => ?_, hb2⟩
    · have h2 := (Lib.below_setCells w.heap.size (Nat.le_refl _) ((xs.drop i).flatMap Reg.enc) ((i + 1) * 7) (Lib.below_setCells w.heap.size (Nat.le_refl _) x.enc (i * 7) (Below.refl w.heap.size W))).size
      have h3 : W.heap.size = w.heap.size + 1 := by rw [hW, hW1]; simp
      omega
    · rw [hfl]
      have := grow_cells (W := W) (g := w.heap.size) (L1 := (xs.take i).flatMap Reg.enc) (V := x.enc) (L2 := (xs.drop i).flatMap Reg.enc) (fun j u hu => by rw [Nat.zero_add, hWc]; exact hN1 j u hu) (fun j hj => by rw [hWc]; exact hN j (by rw [hln1, hln2, hxl] at hj; omega))
      rw [hln1, hxl, show i * 7 + 7 = (i + 1) * 7 by omega] at this
      exact this
    · obtain rfl := Option.some.inj had
      exact hbw))
  have hE1 : ∀ x, ((w.alloc (.cells ROW 44)).drew).cell? x = (w.drew.alloc (.cells ROW 44)).cell? x := fun x => rfl
  have hE2 : ∀ x, ((w.alloc (.cells ROW 44)).drew).frozen? x = (w.drew.alloc (.cells ROW 44)).frozen? x := fun x => rfl
  have hF1 := cell_drew_set w (.cells ROW 44) w.heap.size (i * 7) x.enc
  have hF2 := frz_drew_set w (.cells ROW 44) w.heap.size (i * 7) x.enc
  subst hW1
  generalize InsPost 7 Reg.enc base (insAt xs i x) w = Q at *
  have mixed : Tryz.prog.follows Departure.mixedOrders = true := by kernel_rfl
  have HRZ := Lib.hid hrz
  have HCA := Lib.hid (hcpA _ hE1 hE2)
  have HCB := Lib.hid (hcpB _ hF1 hF2)
  have hw1 : IntKind.i64.wrap ((i : Int) + 1) = (i : Int) + 1 := by rw [IntKind.wrap_i64]; omega
  have hw2 : IntKind.i64.wrap ((xs.length : Int) + 1) = (xs.length : Int) + 1 := by rw [IntKind.wrap_i64]; omega
  have hw3 : IntKind.i64.wrap ((xs.length : Int) + 1 - (i : Int)) = (xs.length : Int) + 1 - (i : Int) := by rw [IntKind.wrap_i64]; omega
  have hb1 : (0 : Int) ≤ (i : Int) + 1 := by omega
  have hin : i ≤ xs.length := by omega
  have htn : ((i : Int) + 1).toNat = i + 1 := by omega
  have hb3 : (i : Int) ≤ (xs.length : Int) := by omega
  have HB1 := Lib.hid (show Below base w ((w.alloc (.cells ROW 44)).drew) from ((Below.refl _ _).alloc hbw _).drew)
  clear hkk hik hold hROW hG hRl hrz hcpA hcpB hR1 hN hN1 hNf hOb hOv hc1 hc2 hcell hvc hsplit hfl hil hln1 hln2 h hv hE1 hE2 hF1 hF2 hi0 hz0 hzs hzb hsz hbig
  generalize (xs.drop i).flatMap Reg.enc = ds at *
  generalize x.enc = xe at *
  generalize xs.length = n at *
  go_enter Tryz.func184, Tryz.ntmps184
  go_wp2_with (first
    | (at_builtin; refine Lib.wpList_append_run _ rfl _ _ _ _ rfl _ _ rfl rfl _ _ (HRZ.out _) ?_)
    | (refine wpList_copy_runI _ rfl _ _ 23 23 rfl _ _ rfl rfl (HCA.out _ _) ?_))
  go_region_law_o (refine step_copy_runI rfl _ _ 23 23 rfl (.slice (some ⟨w.heap.size, (i + 1) * 7, none⟩) (n - i) (G - (i + 1))) (.slice (some ⟨b, i * 7, none⟩) (n - i) (cap - i)) (by simp [Act.eval, Act.put]) (by simp [Act.eval, Act.put]) (HCB.out 3 (G - (i + 1)) (cap - i)) ?_)
  go_wp2_with fail
  rw [show ((w.alloc (.cells ROW 44)).drew.setCells w.heap.size (i * 7) xe).drew = (w.alloc (.cells ROW 44)).drew.drew.setCells w.heap.size (i * 7) xe from drew_setCells _ _ _ _]
  exact HQ.out _ rfl HB1.out.drew
set_option maxRecDepth 100000 in
set_option maxHeartbeats 4000000 in
theorem insertEv_nil (base : Nat) (x : Ev) (g c : Nat) (w : World) (hv : SliceOf 7 Ev.enc Flat w (some ⟨g, 0, none⟩) [x]) (hb : base ≤ w.heap.size) :
    Calls Tryz.prog 188 #[.slice none 0 0, .int .i64 0, .slice (some ⟨g, 0, none⟩) 1 c] w (InsPost 7 Ev.enc base [x] w) := by
  have HQ := Lib.hid (fun (v' : Value) (w' : World) (ho : w'.ownsRow base 50 7 v' (0 + [x].length) ([] ++ [x].flatMap Ev.enc)) (hg : w.grownBy w' (Value.slice none 0 0).ownBlock) => (show InsPost 7 Ev.enc base [x] w (.returned v') w' from by
    obtain ⟨a, c, rfl, hS⟩ := sliceOf_owns (k := 7) (enc := Ev.enc) (Ok := Flat) (xs := [x]) (fun _ => rfl) ho (fun _ _ => trivial)
    exact ⟨a, c, rfl, hS, fun ad had => (ho.lt ad.block (by rw [had]; rfl)).1, (Below.refl base w).grown hg hb (fun j hj => by simp [Value.ownBlock] at hj)⟩))
  obtain ⟨j0, hj, hy0, hy1, hy2⟩ := info_parts Tryz.info50
  have JI := Lib.hid hj; have J0 := Lib.hid hy0; have J1 := Lib.hid hy1; have J2 := Lib.hid hy2
  have HV := Lib.hid hv
  clear hj hy0 hy1 hy2 hv
  generalize InsPost 7 Ev.enc base [x] w = Q at *
  go_enter Tryz.func188, Tryz.ntmps188
  go_wp2_with (at_builtin; refine wpList_append_slice (enc := Ev.enc) (Ok := Flat) _ rfl (.tmp 23) (.tmp 24) 24 rfl base 50 j0 _ 7 88 Tryz.underlying24 JI.out J0.out J1.out J2.out rfl (by decide) (fun _ => rfl) Ev.one _ 0 [] rfl (World.ownsRow_nil _ _ _ _) (some ⟨g, 0, none⟩) c [x] rfl HV.out ?h63 ?hb ?hbase ?_)
  case h63 => simp only [List.length_cons, List.length_nil]; unfold maxLen; omega
  case hb => simp only [List.length_cons, List.length_nil]; omega
  case hbase => exact hb
  intro v' w' ho hg _
  have HF := Lib.hid (HQ.out v' w' ho hg)
  obtain ⟨a', c', rfl⟩ : ∃ a' c', v' = .slice a' 1 c' := by
    rcases ho.2 with ⟨rfl, h0⟩ | ⟨g, cap, _, rfl, _⟩
    · simp at h0
    · exact ⟨_, _, rfl⟩
  clear ho hg
  go_wp2_with fail
  exact HF.out
set_option maxRecDepth 100000 in
set_option maxHeartbeats 4000000 in
theorem insertEv_end (base b cap : Nat) (xs : List Ev) (x : Ev) (g c : Nat) (w : World) (h : w.ownsRow base 50 7 (.slice (some ⟨b, 0, none⟩) xs.length cap) xs.length (xs.flatMap Ev.enc)) (hv : SliceOf 7 Ev.enc Flat w (some ⟨g, 0, none⟩) [x]) (hl : xs.length ≤ 8000000) (hb : base ≤ w.heap.size) :
    Calls Tryz.prog 188 #[.slice (some ⟨b, 0, none⟩) xs.length cap, .int .i64 xs.length, .slice (some ⟨g, 0, none⟩) 1 c] w (InsPost 7 Ev.enc base (xs ++ [x]) w) := by
  have HQ := Lib.hid (fun (cp : Nat) (v' : Value) (w' : World) (ho : w'.ownsRow base 50 7 v' (xs.length + 1) (xs.flatMap Ev.enc ++ [x].flatMap Ev.enc)) (hg : w.grownBy w' (Value.slice (some ⟨b, 0, none⟩) xs.length cp).ownBlock) => (show InsPost 7 Ev.enc base (xs ++ [x]) w (.returned v') w' from by
    rw [← List.flatMap_append] at ho
    rw [show xs.length + 1 = (xs ++ [x]).length by simp] at ho
    obtain ⟨a, c, rfl, hS⟩ := sliceOf_owns (k := 7) (enc := Ev.enc) (Ok := Flat) (fun _ => rfl) ho (fun _ _ => trivial)
    exact ⟨a, c, rfl, hS, fun ad had => (ho.lt ad.block (by rw [had]; rfl)).1, (Below.refl base w).grown hg hb (fun j hj => (h.lt j hj).1)⟩))
  obtain ⟨j0, hj, hy0, hy1, hy2⟩ := info_parts Tryz.info50
  have JI := Lib.hid hj; have J0 := Lib.hid hy0; have J1 := Lib.hid hy1; have J2 := Lib.hid hy2
  have HO := Lib.hid h
  have HV := Lib.hid hv
  have hca : xs.length ≤ cap := by
    rcases h.2 with ⟨he, h0⟩ | ⟨g, cap, _, he, _, _, hc, _⟩
    · simp at he
    · simp only [Value.slice.injEq] at he
      obtain ⟨_, _, rfl⟩ := he
      exact hc
  have hcm : (cap : Int) ≤ 9223372036854775807 := by
    rcases h.2 with ⟨he, h0⟩ | ⟨g, cap, _, he, _, _, hc, hm, _⟩
    · simp at he
    · simp only [Value.slice.injEq] at he
      obtain ⟨_, _, rfl⟩ := he
      simp only [maxLen] at hm
      omega
  clear hj hy0 hy1 hy2 h hv
  generalize InsPost 7 Ev.enc base (xs ++ [x]) w = Q at *
  generalize xs.flatMap Ev.enc = cs at *
  generalize xs.length = n at *
  rcases (show cap = n ∨ ¬ cap = n from Classical.em _) with hq | hq
  case' inl => subst hq
  all_goals
    go_enter Tryz.func188, Tryz.ntmps188
    go_wp2_with (at_builtin; refine wpList_append_slice (enc := Ev.enc) (Ok := Flat) _ rfl (.tmp 23) (.tmp 24) 24 rfl base 50 j0 _ 7 88 Tryz.underlying24 JI.out J0.out J1.out J2.out rfl (by decide) (fun _ => rfl) Ev.one _ _ cs rfl HO.out (some ⟨g, 0, none⟩) c [x] rfl HV.out ?h63 ?hb ?hbase ?_)
    case h63 => simp only [List.length_cons, List.length_nil]; unfold maxLen; omega
    case hb => simp only [List.length_cons, List.length_nil]; omega
    case hbase => exact hb
    intro v' w' ho hg _
    have HF := Lib.hid (HQ.out _ v' w' ho hg)
    obtain ⟨g', c', rfl⟩ := ownForm ho (by simp)
    clear ho hg
    go_wp2_with fail
    exact HF.out
set_option maxRecDepth 100000 in
set_option maxHeartbeats 8000000 in
theorem insertEv_shift (base b i g cap vc : Nat) (xs : List Ev) (x : Ev) (w : World) (h : w.ownsRow base 50 7 (.slice (some ⟨b, 0, none⟩) xs.length cap) xs.length (xs.flatMap Ev.enc)) (hv : w.heap[g]? = some (.cells x.enc.toArray 50 (0, 0))) (hi : i < xs.length) (hroom : xs.length + 1 ≤ cap) (hgb : g ≠ b) (hl : xs.length ≤ 8000000) (hbw : base ≤ w.heap.size) :
    Calls Tryz.prog 188 #[.slice (some ⟨b, 0, none⟩) xs.length cap, .int .i64 i, .slice (some ⟨g, 0, none⟩) 1 vc] w (InsPost 7 Ev.enc base (insAt xs i x) w) := by
  obtain ⟨hbb, hbl⟩ := h.lt b rfl
  have hc63 : cap ≤ 9223372036854775807 := by
    rcases h.2 with ⟨he, h0⟩ | ⟨g, cap, _, he, _, _, hc, hm, _⟩
    · simp at he
    · simp only [Value.slice.injEq] at he
      obtain ⟨_, _, rfl⟩ := he
      simp only [maxLen] at hm
      omega
  obtain ⟨cur, hcur, hcs⟩ : ∃ cur, w.heap[b]? = some (.cells cur 50 (0, 0)) ∧ (xs.length + 1) * 7 ≤ cur.size := by
    rcases h.2 with ⟨he, h0⟩ | ⟨g, cap, cur, he, _, hg, hc, hm, hz, _⟩
    · simp at he
    · simp only [Value.slice.injEq, Option.some.injEq, Addr.mk.injEq, and_true, true_and] at he
      obtain ⟨rfl, rfl⟩ := he
      exact ⟨cur, hg, by first | (rw [hz]; exact Nat.mul_le_mul_right 7 hroom) | (rw [← hz]; exact Nat.mul_le_mul_right 7 hroom) | omega⟩
  have hfr : ∀ j, w.frozen? ⟨b, j, none⟩ = false := h.frozenAt
  have hcell : ∀ j u, (xs.flatMap Ev.enc)[j]? = some u → w.cell? ⟨b, j, none⟩ = some u := fun j u hu => by
    have hj := (List.getElem?_eq_some_iff.1 hu).1
    rw [h.cellAt j (by rw [← h.1]; exact hj)]
    exact hu
  have hspc : ∀ j, j < (xs.length + 1) * 7 → (w.cell? ⟨b, j, none⟩).isSome = true := fun j hj => by
    rw [cell_of_row w b j cur 50 (0, 0) hcur, Array.getElem?_eq_getElem (by omega)]; rfl
  have hvc : ∀ j u, x.enc[j]? = some u → w.cell? ⟨g, j, none⟩ = some u := fun j u hu => by
    rw [cell_of_row w g j _ 50 (0, 0) hv]
    simpa using hu
  have hsa : w.shape? g = some (50, 7) := by
    have : x.enc.toArray.size = 7 := rfl
    simp [World.shape?, hv, this]
  have hsb : w.shape? b = some (50, cur.size) := by simp [World.shape?, hcur]
  have hgf : ∀ j, w.frozen? ⟨g, j, none⟩ = false := fun j => by simp [World.frozen?, hv]
  have hz2 : ¬ ((i : Int) = (xs.length : Int)) := by omega
  have hsz : (Tryz.prog.info? 50).map (·.size) = some 7 := by kernel_rfl
  have hlen := flat_len Ev.enc 7 (fun _ => rfl) xs
  have hln1 := flat_len Ev.enc 7 (fun _ => rfl) (xs.take i)
  have hln2 := flat_len Ev.enc 7 (fun _ => rfl) (xs.drop i)
  rw [List.length_take, Nat.min_eq_left (by omega)] at hln1
  rw [List.length_drop] at hln2
  have hsplit : xs.flatMap Ev.enc = (xs.take i).flatMap Ev.enc ++ (xs.drop i).flatMap Ev.enc := by rw [← List.flatMap_append, List.take_append_drop]
  have hc1 : ∀ j u, ((xs.take i).flatMap Ev.enc)[j]? = some u → w.cell? ⟨b, j, none⟩ = some u := fun j u hu => hcell j u (by
    rw [hsplit, List.getElem?_append_left (List.getElem?_eq_some_iff.1 hu).1]; exact hu)
  have hc2 : ∀ j u, ((xs.drop i).flatMap Ev.enc)[j]? = some u → w.cell? ⟨b, i * 7 + j, none⟩ = some u := fun j u hu => hcell (i * 7 + j) u (by
    rw [hsplit, List.getElem?_append_right (by omega), hln1, Nat.add_sub_cancel_left]; exact hu)
  have ho2 : ∀ v ∈ (xs.drop i).flatMap Ev.enc, v.oneCell' = true := flat_one Ev.one _
  have hfl := insAt_flat Ev.enc xs i x
  have hil := insAt_len xs i x (by omega)
  have hxl : x.enc.length = 7 := rfl
  have hov : ∀ lb cb, (callFunc 248 #[.slice (some ⟨g, 0, none⟩) 1 vc, .slice (some ⟨b, (i + 1) * 7, none⟩) lb cb]).run Tryz.prog w = .ok (.value (.bool false)) w := fun lb cb => by
    rw [run_callFunc_extern Tryz.func248 (by kernel_rfl) (by kernel_rfl) (by kernel_rfl) (e := Extern.SlicesOverlaps.overlaps #[24, 24] #[4]) (by kernel_rfl),
      Lib.run_overlaps_apart w 24 4 50 Tryz.underlying24 7 (fun w => by kernel_rfl) ⟨g, 0, none⟩ ⟨b, (i + 1) * 7, none⟩ 1 vc lb cb hgb 50 50 7 cur.size hsa hsb (by omega) (hgf 0) (hgf 7)]
    rfl
  have hcp1 : ∀ ty dc sc, (Builtin.copy_ #[24, 24] ty #[.slice (some ⟨b, (i + 1) * 7, none⟩) (xs.length - i) dc, .slice (some ⟨b, i * 7, none⟩) (xs.length + 1 - i) sc]).run Tryz.prog w.drew = .ok (goInt (xs.length - i : Nat)) (w.drew.setCells b ((i + 1) * 7) ((xs.drop i).flatMap Ev.enc)) := fun ty dc sc =>
    run_copy_k w.drew _ _ ty 50 7 b ((i + 1) * 7) (xs.length - i) dc ⟨b, i * 7, none⟩ (xs.length + 1 - i) sc (xs.length - i) _ Tryz.underlying24 hsz (by simp only [Nat.min_def]; split <;> omega) hln2
      (fun j v hj => by rw [Addr.add_lit]; exact hc2 j v hj) (fun j hj => hspc _ (by omega)) (fun j hj => hfr _) ho2
  obtain ⟨W1, hW1⟩ : ∃ W1, W1 = w.drew.setCells b ((i + 1) * 7) ((xs.drop i).flatMap Ev.enc) := ⟨_, rfl⟩
  have hsp1 : ∀ k, k < (xs.length + 1) * 7 → (W1.cell? ⟨b, k, none⟩).isSome = true := fun k hk => by
    rw [hW1]
    exact Lib.isSome_setCells _ _ _ _ _ (hspc k hk)
  have hcp2 : ∀ (W : World), (∀ x, W.cell? x = W1.cell? x) → (∀ x, W.frozen? x = W1.frozen? x) → ∀ ty dc, (Builtin.copy_ #[24, 24] ty #[.slice (some ⟨b, i * 7, none⟩) (xs.length + 1 - i) dc, .slice (some ⟨g, 0, none⟩) 1 vc]).run Tryz.prog W = .ok (goInt (1 : Nat)) (W.setCells b (i * 7) x.enc) := fun W hWc hWf ty dc =>
    run_copy_k W _ _ ty 50 7 b (i * 7) (xs.length + 1 - i) dc ⟨g, 0, none⟩ 1 vc 1 _ Tryz.underlying24 hsz (by simp only [Nat.min_def]; split <;> omega) (by rw [hxl])
      (fun j v hj => by
        rw [Addr.add_lit, hWc, hW1, World.cell?_setCells_out b _ _ _ _ (fun h _ => absurd h hgb)]
        rw [Nat.zero_add]
        exact hvc j v hj)
      (fun j hj => by rw [hWc]; exact hsp1 _ (by omega)) (fun j hj => by rw [hWf, hW1, World.frozen?_setCells]; exact hfr _) (Ev.one x)
  rw [← hW1] at hcp1
  have HQ := Lib.hid (show InsPost 7 Ev.enc base (insAt xs i x) w (.returned (.slice (some ⟨b, 0, none⟩) (xs.length + 1) cap)) (W1.setCells b (i * 7) x.enc) from by
    have hbel : Below base w (W1.setCells b (i * 7) x.enc) := by
      rw [hW1]
      exact Lib.below_setCells b hbb _ _ (Lib.below_setCells b hbb _ _ (Below.refl base w).drew)
    refine ⟨some ⟨b, 0, none⟩, cap, by rw [hil], sliceOf_flat (enc := Ev.enc) (fun _ => rfl) ?_ ?_, fun ad had => ?_, hbel⟩
    · have := hbel.size
      have h2 := (Lib.below_setCells b (Nat.le_refl b) x.enc (i * 7) (Lib.below_setCells b (Nat.le_refl b) ((xs.drop i).flatMap Ev.enc) ((i + 1) * 7) (Below.refl b w).drew)).size
      rw [← hW1] at h2
      omega
    · rw [hfl, hW1]
      have := shift_cells (W := w.drew) (g := b) (L1 := (xs.take i).flatMap Ev.enc) (V := x.enc) (L2 := (xs.drop i).flatMap Ev.enc) (fun j u hu => by rw [Nat.zero_add]; exact hc1 j u hu) (fun j hj => hspc j (by rw [hln1, hln2, hxl] at hj; omega))
      rw [hln1, hxl, show i * 7 + 7 = (i + 1) * 7 by omega] at this
      exact this
    · obtain rfl := Option.some.inj had
      exact hbb)
  generalize InsPost 7 Ev.enc base (insAt xs i x) w = Q at *
  have hHOV := Lib.hid hov
  have mixed : Tryz.prog.follows Departure.mixedOrders = true := by kernel_rfl
  clear hfl hil hsplit hlen hln1 hln2 hc1 hc2 hcell hspc hvc hsa hsb hgf hfr hcs hcur h hv hsp1 hW1 hov
  generalize (xs.drop i).flatMap Ev.enc = ds at *
  generalize x.enc = xe at *
  generalize xs.length = n at *
  have hw1 : IntKind.i64.wrap ((i : Int) + 1) = (i : Int) + 1 := by rw [IntKind.wrap_i64]; omega
  have hw2 : IntKind.i64.wrap ((n : Int) + 1) = (n : Int) + 1 := by rw [IntKind.wrap_i64]; omega
  have hb1 : (0 : Int) ≤ (i : Int) + 1 := by omega
  have hin : i ≤ n := by omega
  have htn : ((i : Int) + 1).toNat = i + 1 := by omega
  have htm : ((n : Int) + 1).toNat = n + 1 := by omega
  have hb2 : ¬ (cap = i + 1) := by omega
  have hb3 : (i : Int) ≤ (n : Int) + 1 := by omega
  have hb4 : ¬ (cap = i) := by omega
  have HCP1 := Lib.hid hcp1
  have HCP2 := Lib.hid hcp2
  clear hcp1 hcp2
  go_enter Tryz.func188, Tryz.ntmps188
  go_wp2_with (simp only [hHOV.out])
  go_region_law_o (refine step_copy_runI rfl _ _ 24 24 rfl (.slice (some ⟨b, (i + 1) * 7, none⟩) (n - i) (cap - (i + 1))) (.slice (some ⟨b, i * 7, none⟩) (n + 1 - i) (cap - i)) (by simp [Act.eval, Act.put]) (by simp [Act.eval, Act.put]) (HCP1.out 3 (cap - (i + 1)) (cap - i)) ?_)
  go_wp2_with (refine wpList_copy_runI _ rfl _ _ 24 24 rfl _ _ rfl rfl (HCP2.out _ (fun _ => rfl) (fun _ => rfl) _ _) ?_)
  exact HQ.out
set_option maxRecDepth 100000 in
set_option maxHeartbeats 8000000 in
theorem insertEv_grow (base b i g cap vc : Nat) (xs : List Ev) (x : Ev) (w : World) (h : w.ownsRow base 50 7 (.slice (some ⟨b, 0, none⟩) xs.length cap) xs.length (xs.flatMap Ev.enc)) (hv : w.heap[g]? = some (.cells x.enc.toArray 50 (0, 0))) (hi : i < xs.length) (hroom : cap < xs.length + 1) (hl : xs.length ≤ 8000000) (hbw : base ≤ w.heap.size) :
    Calls Tryz.prog 188 #[.slice (some ⟨b, 0, none⟩) xs.length cap, .int .i64 i, .slice (some ⟨g, 0, none⟩) 1 vc] w (InsPost 7 Ev.enc base (insAt xs i x) w) := by
  obtain ⟨hbb, hbl⟩ := h.lt b rfl
  have hnc : xs.length ≤ cap := by
    rcases h.2 with ⟨he, h0⟩ | ⟨g, cap, cur, he, _, hg, hc, hm, hz, _⟩
    · simp at he
    · simp only [Value.slice.injEq, Option.some.injEq, Addr.mk.injEq, and_true, true_and] at he
      obtain ⟨rfl, rfl⟩ := he
      exact hc
  have hcell : ∀ j u, (xs.flatMap Ev.enc)[j]? = some u → w.cell? ⟨b, j, none⟩ = some u := fun j u hu => by
    have hj := (List.getElem?_eq_some_iff.1 hu).1
    rw [h.cellAt j (by rw [← h.1]; exact hj)]
    exact hu
  have hvc : ∀ j u, x.enc[j]? = some u → w.cell? ⟨g, j, none⟩ = some u := fun j u hu => by
    rw [cell_of_row w g j _ 50 (0, 0) hv]
    simpa using hu
  have hvw : g < w.heap.size := (Array.getElem?_eq_some_iff.1 hv).1
  obtain ⟨i0, hi0, hz0, hzs, hzb⟩ := info_parts Tryz.info50
  have hz2 : ¬ ((i : Int) = (xs.length : Int)) := by omega
  have hz3 : (cap : Int) < (xs.length : Int) + 1 := by omega
  have hsz : (Tryz.prog.info? 50).map (·.size) = some 7 := by kernel_rfl
  have hln1 := flat_len Ev.enc 7 (fun _ => rfl) (xs.take i)
  have hln2 := flat_len Ev.enc 7 (fun _ => rfl) (xs.drop i)
  rw [List.length_take, Nat.min_eq_left (by omega)] at hln1
  rw [List.length_drop] at hln2
  have hsplit : xs.flatMap Ev.enc = (xs.take i).flatMap Ev.enc ++ (xs.drop i).flatMap Ev.enc := by rw [← List.flatMap_append, List.take_append_drop]
  have hc1 : ∀ j u, ((xs.take i).flatMap Ev.enc)[j]? = some u → w.cell? ⟨b, j, none⟩ = some u := fun j u hu => hcell j u (by
    rw [hsplit, List.getElem?_append_left (List.getElem?_eq_some_iff.1 hu).1]; exact hu)
  have hc2 : ∀ j u, ((xs.drop i).flatMap Ev.enc)[j]? = some u → w.cell? ⟨b, i * 7 + j, none⟩ = some u := fun j u hu => hcell (i * 7 + j) u (by
    rw [hsplit, List.getElem?_append_right (by omega), hln1, Nat.add_sub_cancel_left]; exact hu)
  have hfl := insAt_flat Ev.enc xs i x
  have hil := insAt_len xs i x (by omega)
  have hxl : x.enc.length = 7 := rfl
  have hkk : (xs.length : Int) + 1 - (i : Int) = ((xs.length + 1 - i : Nat) : Int) := by omega
  have hik : i + (xs.length + 1 - i) = xs.length + 1 := by omega
  have hold : (Builtin.firstCells i0.size i (.slice (some ⟨b, 0, none⟩) i cap)).run Tryz.prog w.drew = .ok ((xs.take i).flatMap Ev.enc).toArray w.drew := by
    rw [hzs]
    exact run_firstCells_some w.drew 7 i ⟨b, 0, none⟩ i cap _ hln1 (fun j v hj => by
      rw [Addr.add_lit, Nat.zero_add]
      exact hc1 j v hj)
  have hbig : (xs.length + 1) * 88 ≤ 140737488355328 := by omega
  have hrz : ∀ ty, (Builtin.append_ #[24, 3] ty #[.slice (some ⟨b, 0, none⟩) i cap, .int .i64 ((xs.length : Int) + 1 - (i : Int))]).run Tryz.prog w =
      .ok (.slice (some ⟨w.heap.size, 0, none⟩) (xs.length + 1) (grownCap w (xs.length + 1) cap 50)) (w.drew.alloc (.cells (((xs.take i).flatMap Ev.enc).toArray ++ Builtin.zeroCells (Value.agg #[.int .i64 0, .int .i64 0, .int .i64 0, .string ⟨#[]⟩, .int .u8 0, .string ⟨#[]⟩, .slice none 0 0]).cells (xs.length + 1 - i) ++ Builtin.zeroCells (Value.agg #[.int .i64 0, .int .i64 0, .int .i64 0, .string ⟨#[]⟩, .int .u8 0, .string ⟨#[]⟩, .slice none 0 0]).cells (grownCap w (xs.length + 1) cap 50 - (xs.length + 1))) 50)) := fun ty => by
    have h := Lib.run_append_grow_zeros w 24 3 ty 50 i0 _ .i64 .i64 Tryz.underlying24 Tryz.underlying3 hi0 hz0 (some ⟨b, 0, none⟩) i cap _ hold (xs.length + 1 - i) (by omega) (by omega) (by omega) (by omega) (by rw [hzb]; omega) (by rw [hzb, hik]; exact growslice_fits hroom hbig)
    rw [hik] at h
    rw [hkk]
    exact h
  obtain ⟨G, hG⟩ : ∃ G, G = grownCap w (xs.length + 1) cap 50 := ⟨_, rfl⟩
  obtain ⟨ROW, hROW⟩ : ∃ ROW : Array Value, ROW = ((xs.take i).flatMap Ev.enc).toArray ++ Builtin.zeroCells (Value.agg #[.int .i64 0, .int .i64 0, .int .i64 0, .string ⟨#[]⟩, .int .u8 0, .string ⟨#[]⟩, .slice none 0 0]).cells (xs.length + 1 - i) ++ Builtin.zeroCells (Value.agg #[.int .i64 0, .int .i64 0, .int .i64 0, .string ⟨#[]⟩, .int .u8 0, .string ⟨#[]⟩, .slice none 0 0]).cells (G - (xs.length + 1)) := ⟨_, rfl⟩
  rw [← hG] at hrz
  rw [← hROW] at hrz
  have hRl : (xs.length + 1) * 7 ≤ ROW.size := by
    rw [hROW]
    simp [Builtin.zeroCells, Value.cells, hln1]
    omega
  have hR1 : ∀ j u, ((xs.take i).flatMap Ev.enc)[j]? = some u → ROW[j]? = some u := fun j u hu => by
    have hj := (List.getElem?_eq_some_iff.1 hu).1
    rw [hROW, Array.append_assoc, Array.getElem?_append_left (by simpa using hj)]
    simpa using hu
  obtain ⟨W1, hW1⟩ : ∃ W1, W1 = w.drew.alloc (.cells ROW 50) := ⟨_, rfl⟩
  rw [← hW1] at hrz
  have hN : ∀ j, j < (xs.length + 1) * 7 → (W1.cell? ⟨w.heap.size, j, none⟩).isSome = true := fun j hj => by
    rw [hW1, World.cell?_alloc_at (w := w.drew) ROW _ w.heap.size j rfl, Array.getElem?_eq_getElem (by omega)]; rfl
  have hN1 : ∀ j u, ((xs.take i).flatMap Ev.enc)[j]? = some u → W1.cell? ⟨w.heap.size, j, none⟩ = some u := fun j u hu => by
    rw [hW1, World.cell?_alloc_at (w := w.drew) ROW _ w.heap.size j rfl]; exact hR1 j u hu
  have hNf : ∀ j, W1.frozen? ⟨w.heap.size, j, none⟩ = false := fun j => by rw [hW1]; exact World.frozen?_alloc_at (w := w.drew) ROW _ w.heap.size j rfl
  have hOb : ∀ j v, w.cell? ⟨b, j, none⟩ = some v → W1.cell? ⟨b, j, none⟩ = some v := fun j v h => by rw [hW1, World.cell?_alloc_past (w := w.drew) _ b j hbl]; exact h
  have hOv : ∀ j v, w.cell? ⟨g, j, none⟩ = some v → W1.cell? ⟨g, j, none⟩ = some v := fun j v h => by rw [hW1, World.cell?_alloc_past (w := w.drew) _ g j hvw]; exact h
  have hcpA : ∀ (W : World), (∀ x, W.cell? x = W1.cell? x) → (∀ x, W.frozen? x = W1.frozen? x) → ∀ ty dc, (Builtin.copy_ #[24, 24] ty #[.slice (some ⟨w.heap.size, i * 7, none⟩) (xs.length + 1 - i) dc, .slice (some ⟨g, 0, none⟩) 1 vc]).run Tryz.prog W = .ok (goInt (1 : Nat)) (W.setCells w.heap.size (i * 7) x.enc) := fun W hWc hWf ty dc =>
    run_copy_k W _ _ ty 50 7 w.heap.size (i * 7) (xs.length + 1 - i) dc ⟨g, 0, none⟩ 1 vc 1 _ Tryz.underlying24 hsz (by simp only [Nat.min_def]; split <;> omega) (by rw [hxl])
      (fun j v hj => by rw [Addr.add_lit, hWc, Nat.zero_add]; exact hOv _ v (hvc j v hj))
      (fun j hj => by rw [hWc]; exact hN _ (by omega)) (fun j hj => by rw [hWf]; exact hNf _) (Ev.one x)
  have hGn : xs.length + 1 ≤ G := by rw [hG]; exact grownCap_ge w _ _ _
  have hG63 : G ≤ 9223372036854775807 := by
    have := grownCap_le_maxLen w (xs.length + 1) cap 50 (by unfold maxLen; omega)
    rw [← hG] at this
    unfold maxLen at this
    omega
  have hGi : ¬ (G = i) := by omega
  have hGim : ¬ (G = i + 1) := by omega
  have hci : ¬ (cap = i) := by omega
  have hbN : b ≠ w.heap.size := by omega
  have hcpB : ∀ (W : World), (∀ y, W.cell? y = (W1.setCells w.heap.size (i * 7) x.enc).cell? y) → (∀ y, W.frozen? y = (W1.setCells w.heap.size (i * 7) x.enc).frozen? y) → ∀ ty dc sc, (Builtin.copy_ #[24, 24] ty #[.slice (some ⟨w.heap.size, (i + 1) * 7, none⟩) (xs.length - i) dc, .slice (some ⟨b, i * 7, none⟩) (xs.length - i) sc]).run Tryz.prog W = .ok (goInt (xs.length - i : Nat)) (W.setCells w.heap.size ((i + 1) * 7) ((xs.drop i).flatMap Ev.enc)) := fun W hWc hWf ty dc sc =>
    run_copy_k W _ _ ty 50 7 w.heap.size ((i + 1) * 7) (xs.length - i) dc ⟨b, i * 7, none⟩ (xs.length - i) sc (xs.length - i) _ Tryz.underlying24 hsz (by simp only [Nat.min_def]; split <;> omega) hln2
      (fun j v hj => by
        rw [Addr.add_lit, hWc, World.cell?_setCells_out _ _ _ _ _ (fun h _ => absurd h hbN)]
        exact hOb _ v (hc2 j v hj))
      (fun j hj => by rw [hWc]; exact Lib.isSome_setCells _ _ _ _ _ (hN _ (by omega)))
      (fun j hj => by rw [hWf, World.frozen?_setCells]; exact hNf _) (flat_one Ev.one _)
  have HQ := Lib.hid (fun (W : World) (hW : W.heap = W1.heap) (hbel : Below base w W) => (show InsPost 7 Ev.enc base (insAt xs i x) w (.returned (.slice (some ⟨w.heap.size, 0, none⟩) (xs.length + 1) G)) ((W.setCells w.heap.size (i * 7) x.enc).setCells w.heap.size ((i + 1) * 7) ((xs.drop i).flatMap Ev.enc)) from by
    have hWc : ∀ y, W.cell? y = W1.cell? y := fun y => by simp [World.cell?, hW]
    have hb2 : Below base w ((W.setCells w.heap.size (i * 7) x.enc).setCells w.heap.size ((i + 1) * 7) ((xs.drop i).flatMap Ev.enc)) := Lib.below_setCells _ hbw _ _ (Lib.below_setCells _ hbw _ _ hbel)
    refine ⟨some ⟨w.heap.size, 0, none⟩, G, by rw [hil], sliceOf_flat (enc := Ev.enc) (fun _ => rfl) ?_ ?_, fun ad had => ?_, hb2⟩
    · have h2 := (Lib.below_setCells w.heap.size (Nat.le_refl _) ((xs.drop i).flatMap Ev.enc) ((i + 1) * 7) (Lib.below_setCells w.heap.size (Nat.le_refl _) x.enc (i * 7) (Below.refl w.heap.size W))).size
      have h3 : W.heap.size = w.heap.size + 1 := by rw [hW, hW1]; simp
      omega
    · rw [hfl]
      have := grow_cells (W := W) (g := w.heap.size) (L1 := (xs.take i).flatMap Ev.enc) (V := x.enc) (L2 := (xs.drop i).flatMap Ev.enc) (fun j u hu => by rw [Nat.zero_add, hWc]; exact hN1 j u hu) (fun j hj => by rw [hWc]; exact hN j (by rw [hln1, hln2, hxl] at hj; omega))
      rw [hln1, hxl, show i * 7 + 7 = (i + 1) * 7 by omega] at this
      exact this
    · obtain rfl := Option.some.inj had
      exact hbw))
  have hE1 : ∀ x, ((w.alloc (.cells ROW 50)).drew).cell? x = (w.drew.alloc (.cells ROW 50)).cell? x := fun x => rfl
  have hE2 : ∀ x, ((w.alloc (.cells ROW 50)).drew).frozen? x = (w.drew.alloc (.cells ROW 50)).frozen? x := fun x => rfl
  have hF1 := cell_drew_set w (.cells ROW 50) w.heap.size (i * 7) x.enc
  have hF2 := frz_drew_set w (.cells ROW 50) w.heap.size (i * 7) x.enc
  subst hW1
  generalize InsPost 7 Ev.enc base (insAt xs i x) w = Q at *
  have mixed : Tryz.prog.follows Departure.mixedOrders = true := by kernel_rfl
  have HRZ := Lib.hid hrz
  have HCA := Lib.hid (hcpA _ hE1 hE2)
  have HCB := Lib.hid (hcpB _ hF1 hF2)
  have hw1 : IntKind.i64.wrap ((i : Int) + 1) = (i : Int) + 1 := by rw [IntKind.wrap_i64]; omega
  have hw2 : IntKind.i64.wrap ((xs.length : Int) + 1) = (xs.length : Int) + 1 := by rw [IntKind.wrap_i64]; omega
  have hw3 : IntKind.i64.wrap ((xs.length : Int) + 1 - (i : Int)) = (xs.length : Int) + 1 - (i : Int) := by rw [IntKind.wrap_i64]; omega
  have hb1 : (0 : Int) ≤ (i : Int) + 1 := by omega
  have hin : i ≤ xs.length := by omega
  have htn : ((i : Int) + 1).toNat = i + 1 := by omega
  have hb3 : (i : Int) ≤ (xs.length : Int) := by omega
  have HB1 := Lib.hid (show Below base w ((w.alloc (.cells ROW 50)).drew) from ((Below.refl _ _).alloc hbw _).drew)
  clear hkk hik hold hROW hG hRl hrz hcpA hcpB hR1 hN hN1 hNf hOb hOv hc1 hc2 hcell hvc hsplit hfl hil hln1 hln2 h hv hE1 hE2 hF1 hF2 hi0 hz0 hzs hzb hsz hbig
  generalize (xs.drop i).flatMap Ev.enc = ds at *
  generalize x.enc = xe at *
  generalize xs.length = n at *
  go_enter Tryz.func188, Tryz.ntmps188
  go_wp2_with (first
    | (at_builtin; refine Lib.wpList_append_run _ rfl _ _ _ _ rfl _ _ rfl rfl _ _ (HRZ.out _) ?_)
    | (refine wpList_copy_runI _ rfl _ _ 24 24 rfl _ _ rfl rfl (HCA.out _ _) ?_))
  go_region_law_o (refine step_copy_runI rfl _ _ 24 24 rfl (.slice (some ⟨w.heap.size, (i + 1) * 7, none⟩) (n - i) (G - (i + 1))) (.slice (some ⟨b, i * 7, none⟩) (n - i) (cap - i)) (by simp [Act.eval, Act.put]) (by simp [Act.eval, Act.put]) (HCB.out 3 (G - (i + 1)) (cap - i)) ?_)
  go_wp2_with fail
  rw [show ((w.alloc (.cells ROW 50)).drew.setCells w.heap.size (i * 7) xe).drew = (w.alloc (.cells ROW 50)).drew.drew.setCells w.heap.size (i * 7) xe from drew_setCells _ _ _ _]
  exact HQ.out _ rfl HB1.out.drew
end Go.Proofs.YtnlnmbcaongehaaGreatDoor
