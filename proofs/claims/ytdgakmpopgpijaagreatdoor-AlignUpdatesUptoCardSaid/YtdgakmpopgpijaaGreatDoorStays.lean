/- The plain law of AlignStays: links that belong to a template and a target belong to them after the template has changed. -/
import Derived.Test.YtdgakmpopgpijaaGreatDoorCheck2
set_option linter.unusedVariables false
namespace Go.Proofs.YtdgakmpopgpijaaGreatDoor
open Go.RowKit

theorem posFrom_iff {α : Type} (p : α → Bool) : ∀ (xs : List α) (i : Nat), 0 ≤ posFrom p xs i ↔ ∃ x ∈ xs, p x = true
  | [], i => by simp [posFrom]
  | x :: l, i => by
    unfold posFrom
    split
    · rename_i h; simp [h]
    · rename_i h; rw [posFrom_iff p l (i + 1)]; simp [h]
theorem posOf_iff {α : Type} (p : α → Bool) (xs : List α) : 0 ≤ posOf p xs ↔ ∃ x ∈ xs, p x = true := posFrom_iff p xs 0

theorem aimAt_iff (xs : List Lk) (y : Int) : ∀ k, k ≤ xs.length → (aimAt xs k y = true ↔ ∃ j x, j < k ∧ xs[j]? = some x ∧ x.tgt = y)
  | 0, _ => by simp [aimAt]
  | k + 1, h => by
    have ih := aimAt_iff xs y k (by omega)
    have hk : xs[k]? = some xs[k] := List.getElem?_eq_getElem (by omega)
    simp only [aimAt, hk]
    by_cases hy : y = xs[k].tgt
    · rw [if_pos hy]
      simp only [true_iff]
      exact ⟨k, xs[k], by omega, hk, hy.symm⟩
    · rw [if_neg hy, ih]
      constructor
      · rintro ⟨j, x, h1, h2, h3⟩; exact ⟨j, x, by omega, h2, h3⟩
      · rintro ⟨j, x, h1, h2, h3⟩
        by_cases hj : j = k
        · subst hj; rw [hk] at h2; obtain rfl : xs[j] = x := by simpa using h2
          exact absurd h3.symm hy
        · exact ⟨j, x, by omega, h2, h3⟩
theorem aim_iff (xs : List Lk) (y : Int) : aimAt xs xs.length y = true ↔ ∃ x ∈ xs, x.tgt = y := by
  rw [aimAt_iff xs y _ (Nat.le_refl _)]
  constructor
  · rintro ⟨j, x, _, h2, h3⟩; exact ⟨x, List.mem_of_getElem? h2, h3⟩
  · rintro ⟨x, h, h3⟩
    obtain ⟨j, hj⟩ := List.getElem?_of_mem h
    exact ⟨j, x, (List.getElem?_eq_some_iff.1 hj).1, hj, h3⟩

theorem seenAt_iff (xs : List Lk) (y : Int) : ∀ k, k ≤ xs.length → (seenAt xs k y = true ↔ ∃ j x, j < k ∧ xs[j]? = some x ∧ ¬ x.tgt = 0 ∧ x.tgt = y)
  | 0, _ => by simp [seenAt]
  | k + 1, h => by
    have ih := seenAt_iff xs y k (by omega)
    have hk : xs[k]? = some xs[k] := List.getElem?_eq_getElem (by omega)
    simp only [seenAt, hk]
    by_cases h0 : xs[k].tgt = 0
    · rw [if_pos h0, ih]
      constructor
      · rintro ⟨j, x, h1, h2, h3⟩; exact ⟨j, x, by omega, h2, h3⟩
      · rintro ⟨j, x, h1, h2, h3, h4⟩
        by_cases hj : j = k
        · subst hj; rw [hk] at h2; obtain rfl : xs[j] = x := by simpa using h2
          exact absurd h0 h3
        · exact ⟨j, x, by omega, h2, h3, h4⟩
    · rw [if_neg h0]
      by_cases hy : y = xs[k].tgt
      · rw [if_pos hy]
        simp only [true_iff]
        exact ⟨k, xs[k], by omega, hk, h0, hy.symm⟩
      · rw [if_neg hy, ih]
        constructor
        · rintro ⟨j, x, h1, h2, h3⟩; exact ⟨j, x, by omega, h2, h3⟩
        · rintro ⟨j, x, h1, h2, h3, h4⟩
          by_cases hj : j = k
          · subst hj; rw [hk] at h2; obtain rfl : xs[j] = x := by simpa using h2
            exact absurd h4.symm hy
          · exact ⟨j, x, by omega, h2, h3, h4⟩

/-- What is asked of one link. -/
def LkOk (x : Lk) : Prop := 1 ≤ x.tpl ∧ x.tpl ≤ 1099511627776 ∧ 1 ≤ x.st ∧ x.st ≤ 4 ∧ (x.tgt = 0 ↔ x.st = 3) ∧ 0 ≤ x.tgt ∧ x.tgt ≤ 1099511627776
def TgtNe (x y : Lk) : Prop := x.tgt = 0 ∨ y.tgt = 0 ∨ ¬ x.tgt = y.tgt

theorem formGo_mk (xs : List Lk) (h : ∀ j x, xs[j]? = some x → ¬ (lkBad (aheadOf xs j) x ∨ seenAt xs j x.tgt = true)) : ∀ n k, formGo xs k n = true
  | 0, k => rfl
  | n + 1, k => by
    rw [formGo]
    split
    · rfl
    · rename_i x hx
      rw [if_neg (h k x hx)]
      exact formGo_mk xs h n (k + 1)

theorem form_ok {xs : List Lk} (h : formB xs = true) : (∀ x ∈ xs, LkOk x) ∧ xs.Pairwise (fun x y => x.tpl < y.tpl) ∧ xs.Pairwise TgtNe := by
  have H := form_all h
  refine ⟨fun x hx => ?_, ?_, ?_⟩
  · obtain ⟨j, hj⟩ := List.getElem?_of_mem hx
    have := H j x hj
    unfold lkBad at this
    unfold LkOk
    omega
  · rw [List.pairwise_iff_getElem]
    have step : ∀ j (hj : j + 1 < xs.length), xs[j].tpl < xs[j + 1].tpl := fun j hj => by
      have := H (j + 1) xs[j + 1] (List.getElem?_eq_getElem hj)
      have e : aheadOf xs (j + 1) = some xs[j] := List.getElem?_eq_getElem (show j < xs.length by omega)
      rw [e] at this
      unfold lkBad lkOrder at this
      simp only at this
      omega
    intro i j hi hj hij
    induction j with
    | zero => omega
    | succ j ih =>
      by_cases h' : i = j
      · subst h'; exact step i hj
      · have a := ih (by omega) (by omega)
        have b := step j hj
        omega
  · rw [List.pairwise_iff_getElem]
    intro i j hi hj hij
    unfold TgtNe
    by_cases h0 : xs[j].tgt = 0
    · exact .inr (.inl h0)
    · right; right
      intro he
      apply H j xs[j] (List.getElem?_eq_getElem hj)
      right
      rw [seenAt_iff xs _ j (by omega)]
      exact ⟨i, xs[i], hij, List.getElem?_eq_getElem hi, by rw [he]; exact h0, he⟩

theorem form_mk {xs : List Lk} (h1 : ∀ x ∈ xs, LkOk x) (h2 : xs.Pairwise (fun x y => x.tpl < y.tpl)) (h3 : xs.Pairwise TgtNe) : formB xs = true := by
  refine formGo_mk xs (fun j x hx => ?_) _ _
  have hj : j < xs.length := (List.getElem?_eq_some_iff.1 hx).1
  have hxe : xs[j] = x := (List.getElem?_eq_some_iff.1 hx).2
  have ok := h1 x (List.mem_of_getElem? hx)
  rw [List.pairwise_iff_getElem] at h2 h3
  have ho : ¬ lkOrder (aheadOf xs j) x := by
    cases j with
    | zero => simp [aheadOf, lkOrder]
    | succ i =>
      simp only [aheadOf, List.getElem?_eq_getElem (show i < xs.length by omega), lkOrder]
      have := h2 i (i + 1) (by omega) hj (by omega)
      rw [hxe] at this
      omega
  have hs : ¬ seenAt xs j x.tgt = true := by
    rw [seenAt_iff xs _ j (by omega)]
    rintro ⟨i, y, hi, hy, hy0, hye⟩
    have hi' : i < xs.length := (List.getElem?_eq_some_iff.1 hy).1
    have hye' : xs[i] = y := (List.getElem?_eq_some_iff.1 hy).2
    rcases h3 i j hi' hj hi with h | h | h
    · rw [hye'] at h; exact hy0 h
    · rw [hxe] at h; rw [h] at hye; exact hy0 hye
    · rw [hxe, hye'] at h; exact h hye
  unfold LkOk at ok
  unfold lkBad
  rintro (h | h)
  · rcases h with h | h | h | h | h | h | h | h
    · omega
    · omega
    · exact ho h
    · omega
    · omega
    · exact h ok.2.2.2.2.1
    · omega
    · omega
  · exact hs h

theorem seenEv_iff (evs : List Ev) (y : Int) : ∀ k, k ≤ evs.length → ((seenEv evs k y).isSome = true ↔ ∃ j x, j < k ∧ evs[j]? = some x ∧ x.id = y)
  | 0, _ => by simp [seenEv]
  | k + 1, h => by
    have ih := seenEv_iff evs y k (by omega)
    have hk : evs[k]? = some evs[k] := List.getElem?_eq_getElem (by omega)
    simp only [seenEv, hk]
    by_cases hy : y = evs[k].id
    · rw [if_pos hy]
      simp only [Option.isSome_some, true_iff]
      exact ⟨k, evs[k], by omega, hk, hy.symm⟩
    · rw [if_neg hy, ih]
      constructor
      · rintro ⟨j, x, h1, h2, h3⟩; exact ⟨j, x, by omega, h2, h3⟩
      · rintro ⟨j, x, h1, h2, h3⟩
        by_cases hj : j = k
        · subst hj; rw [hk] at h2; obtain rfl : evs[j] = x := by simpa using h2
          exact absurd h3.symm hy
        · exact ⟨j, x, by omega, h2, h3⟩

theorem doc_nodup {d : Doc} (h : docErr d = 0) : d.evs.Pairwise (fun x y => ¬ x.id = y.id) := by
  rw [List.pairwise_iff_getElem]
  intro i j hi hj hij he
  have := (evStep_zero ((doc_parts h).2.2 j d.evs[j] (List.getElem?_eq_getElem hj))).2.2.2.1
  have h2 := (seenEv_iff d.evs d.evs[j].id j (by omega)).2 ⟨i, d.evs[i], hij, List.getElem?_eq_getElem hi, he⟩
  rw [this] at h2
  cases h2

/-! ### what Check = OK says -/
theorem firstBad_zero {α : Type} {p : α → Bool} {E : Int} {xs : List α} {rest : Int} (hE : ¬ E = 0) (h : firstBad p E xs rest = 0) : (∀ x ∈ xs, p x = false) ∧ rest = 0 := by
  unfold firstBad at h
  split at h
  · exact absurd h hE
  · rename_i hn
    refine ⟨fun x hx => ?_, h⟩
    cases hp : p x
    · rfl
    · exact absurd (List.any_eq_true.2 ⟨x, hx, hp⟩) hn
theorem firstBad_mk {α : Type} {p : α → Bool} {E : Int} {xs : List α} {rest : Int} (h : ∀ x ∈ xs, p x = false) (hr : rest = 0) : firstBad p E xs rest = 0 := by
  unfold firstBad
  rw [if_neg ?_, hr]
  intro ha
  obtain ⟨x, hx, hp⟩ := List.any_eq_true.1 ha
  rw [h x hx] at hp
  cases hp

/-- Links between the events of a template and of a target. -/
structure Belong (xs : List Lk) (evs evs' : List Ev) : Prop where
  form : formB xs = true
  tpl : ∀ x ∈ xs, ¬ x.st = 4 → ∃ e ∈ evs, e.id = x.tpl
  tgt : ∀ x ∈ xs, ¬ x.tgt = 0 → ∃ e ∈ evs', e.id = x.tgt
  orphan : ∀ x ∈ xs, x.st = 4 → ¬ ∃ e ∈ evs, e.id = x.tpl
  all : ∀ e ∈ evs, ∃ x ∈ xs, x.tpl = e.id
  aimed : ∀ e ∈ evs', ∃ x ∈ xs, x.tgt = e.id

theorem has_iff (evs : List Ev) (id : Int) : 0 ≤ posOf (hasId id) evs ↔ ∃ e ∈ evs, e.id = id := by
  rw [posOf_iff]; simp [hasId]
theorem hasL_iff (xs : List Lk) (id : Int) : 0 ≤ posOf (hasTpl id) xs ↔ ∃ x ∈ xs, x.tpl = id := by
  rw [posOf_iff]; simp [hasTpl]

theorem chk_zero {xs : List Lk} {d d' : Doc} (h : chkErr xs d d' = 0) : docErr d = 0 ∧ docErr d' = 0 ∧ Belong xs d.evs d'.evs := by
  unfold chkErr at h
  split at h
  · cases h
  · rename_i hf
    split at h
    · rename_i hne; rw [h] at hne; cases hne
    · rename_i h1
      split at h
      · rename_i hne; rw [h] at hne; cases hne
      · rename_i h2
        refine ⟨by simpa using h1, by simpa using h2, ?_⟩
        unfold chk1 at h
        obtain ⟨a1, h⟩ := firstBad_zero (by decide) h
        unfold chk2 at h
        obtain ⟨a2, h⟩ := firstBad_zero (by decide) h
        unfold chk3 at h
        obtain ⟨a3, h⟩ := firstBad_zero (by decide) h
        unfold chk4 at h
        obtain ⟨a4, _⟩ := firstBad_zero (by decide) h
        refine ⟨by simpa using hf, fun x hx hs => ?_, fun x hx ht => ?_, fun x hx hs hh => ?_, fun e he => ?_, fun e he => ?_⟩
        · have := a1 x hx
          rw [← has_iff]
          simp [badNone, hs] at this
          exact this.1
        · have := a1 x hx
          rw [← has_iff]
          simp [badNone, ht] at this
          exact this.2
        · have := a2 x hx
          rw [← has_iff] at hh
          simp [badState, hs, hh] at this
        · have := a3 e he
          rw [← hasL_iff]
          simp [badTpl] at this
          omega
        · have := a4 e he
          rw [← aim_iff]
          simpa [badTgt] using this
theorem chk_mk {xs : List Lk} {d d' : Doc} (h1 : docErr d = 0) (h2 : docErr d' = 0) (h : Belong xs d.evs d'.evs) : chkErr xs d d' = 0 := by
  unfold chkErr
  rw [if_neg (by rw [h.form]; decide), if_neg (by rw [h1]; decide), if_neg (by rw [h2]; decide)]
  refine firstBad_mk (fun x hx => ?_) (firstBad_mk (fun x hx => ?_) (firstBad_mk (fun e he => ?_) (firstBad_mk (fun e he => ?_) rfl)))
  · unfold badNone
    have a : (!(x.st == 4) && !decide (0 ≤ posOf (hasId x.tpl) d.evs)) = false := by
      by_cases hs : x.st = 4
      · simp [hs]
      · have := (has_iff _ _).2 (h.tpl x hx hs); simp [this]
    have b : (!(x.tgt == 0) && !decide (0 ≤ posOf (hasId x.tgt) d'.evs)) = false := by
      by_cases hs : x.tgt = 0
      · simp [hs]
      · have := (has_iff _ _).2 (h.tgt x hx hs); simp [this]
    rw [a, b]; rfl
  · unfold badState
    by_cases hs : x.st = 4
    · have := h.orphan x hx hs
      rw [← has_iff] at this
      rw [decide_eq_false this, Bool.and_false]
    · simp [hs]
  · have := (hasL_iff _ _).2 (h.all e he)
    unfold badTpl
    exact decide_eq_false (by omega)
  · unfold badTgt
    rw [(aim_iff _ _).2 (h.aimed e he)]
    rfl

/-! ### the template changes -/
theorem int_unique : ∀ {ys zs : List Int}, ys.Perm zs → ys.Pairwise (· ≤ ·) → zs.Pairwise (· < ·) → ys = zs
  | [], zs, hp, _, _ => (List.nil_perm.1 hp).symm
  | y :: ys, [], hp, _, _ => absurd hp.length_eq (by simp)
  | y :: ys, z :: zs, hp, h1, h2 => by
    rw [List.pairwise_cons] at h1 h2
    have hy : y ∈ z :: zs := hp.subset (by simp)
    have hz : z ∈ y :: ys := hp.symm.subset (by simp)
    have e : y = z := by
      rcases List.mem_cons.1 hy with h | h
      · exact h
      · rcases List.mem_cons.1 hz with h' | h'
        · exact h'.symm
        · have a := h2.1 y h
          have b := h1.1 z h'
          omega
    subst e
    rw [int_unique (List.perm_cons _ |>.1 hp) h1.2 h2.2]

theorem ownIds_mem (xs : List Lk) (z : Int) : z ∈ ownIds xs ↔ ∃ x ∈ xs, ¬ x.st = 4 ∧ x.tpl = z := by
  unfold ownIds
  rw [List.mem_flatMap]
  constructor
  · rintro ⟨x, hx, hz⟩
    unfold ownId at hz
    split at hz
    · simp at hz
    · rename_i hs; exact ⟨x, hx, hs, (List.mem_singleton.1 hz).symm⟩
  · rintro ⟨x, hx, hs, rfl⟩
    exact ⟨x, hx, by unfold ownId; rw [if_neg hs]; simp⟩
theorem ownIds_asc {xs : List Lk} (h : xs.Pairwise (fun x y => x.tpl < y.tpl)) : (ownIds xs).Pairwise (· < ·) := by
  unfold ownIds
  rw [List.pairwise_flatMap]
  refine ⟨fun x _ => ?_, h.imp fun {a b} hab x hx y hy => ?_⟩
  · unfold ownId; split <;> simp
  · unfold ownId at hx hy
    split at hx <;> split at hy <;> simp at hx hy
    omega

theorem belongs {xs : List Lk} {d : Doc} {evs' : List Ev} (h1 : docErr d = 0) (h : Belong xs d.evs evs') : belongB xs d.evs = true := by
  unfold belongB
  have asc := ownIds_asc (form_ok h.form).2.1
  have nd : (idsOf d.evs).Nodup := by
    unfold idsOf List.Nodup
    rw [List.pairwise_map]
    exact doc_nodup h1
  have nd2 : (ownIds xs).Nodup := asc.imp fun h => by omega
  have mem : ∀ z, z ∈ idsOf d.evs ↔ z ∈ ownIds xs := fun z => by
    rw [ownIds_mem]
    unfold idsOf
    rw [List.mem_map]
    constructor
    · rintro ⟨e, he, rfl⟩
      obtain ⟨x, hx, hxe⟩ := h.all e he
      refine ⟨x, hx, fun hs => h.orphan x hx hs ⟨e, he, hxe.symm⟩, hxe⟩
    · rintro ⟨x, hx, hs, rfl⟩
      exact h.tpl x hx hs
  have hp : (sortI (idsOf d.evs)).Perm (ownIds xs) := (List.mergeSort_perm _ _).trans ((List.perm_ext_iff_of_nodup nd nd2).2 mem)
  have hs : (sortI (idsOf d.evs)).Pairwise (· ≤ ·) := by
    have := List.pairwise_mergeSort (le := fun x y : Int => decide (x ≤ y)) (fun a b c h1 h2 => by simp at *; omega) (fun a b => by simp; omega) (idsOf d.evs)
    exact this.imp fun h => by simpa using h
  exact decide_eq_true (int_unique hp hs asc).symm

/-- One link after the change: what becomes of it. -/
theorem upd_facts {x : Lk} (ok : LkOk x) (before after : List Ev) :
    ((∃ e ∈ after, e.id = x.tpl) ∧ (updLk x before after).2 = true ∧ LkOk (updLk x before after).1 ∧ ¬ (updLk x before after).1.st = 4) ∨
    ((¬ ∃ e ∈ after, e.id = x.tpl) ∧ ((x.st = 3 ∧ (updLk x before after).2 = false) ∨ (¬ x.st = 3 ∧ (updLk x before after).2 = true ∧ LkOk (updLk x before after).1 ∧ (updLk x before after).1.st = 4))) := by
  rw [← has_iff]
  unfold LkOk at ok
  by_cases hk : posOf (hasId x.tpl) after < 0
  · right
    refine ⟨by omega, ?_⟩
    unfold updLk
    rw [if_pos hk]
    by_cases hs : x.st = 3
    · left; rw [if_pos hs]; exact ⟨hs, rfl⟩
    · right; rw [if_neg hs]
      refine ⟨hs, rfl, ?_, rfl⟩
      unfold LkOk
      simp only
      omega
  · left
    refine ⟨by omega, ?_⟩
    unfold updLk
    rw [if_neg hk]
    by_cases hs : x.st = 4
    · rw [if_pos hs]
      refine ⟨rfl, ?_, by simp⟩
      unfold LkOk
      simp only
      omega
    · rw [if_neg hs]
      split
      · rename_i hc
        refine ⟨rfl, ?_, by simp⟩
        unfold LkOk
        simp only
        omega
      · exact ⟨rfl, ok, hs⟩

theorem updAll_mem {xs : List Lk} {b a : List Ev} {y : Lk} : y ∈ updAll xs b a ↔ (∃ x ∈ xs, (updLk x b a).2 = true ∧ y = (updLk x b a).1) ∨ (∃ e ∈ a, (¬ ∃ x ∈ xs, x.tpl = e.id) ∧ y = ⟨e.id, 0, 3⟩) := by
  unfold updAll
  rw [List.mem_append, List.mem_flatMap, List.mem_flatMap]
  constructor
  · rintro (⟨x, hx, hy⟩ | ⟨e, he, hy⟩)
    · unfold updOne at hy
      split at hy
      · rename_i h; exact .inl ⟨x, hx, h, by simpa using hy⟩
      · simp at hy
    · unfold newOne at hy
      split at hy
      · rename_i h
        refine .inr ⟨e, he, ?_, by simpa using hy⟩
        rw [← hasL_iff]
        omega
      · simp at hy
  · rintro (⟨x, hx, h, rfl⟩ | ⟨e, he, h, rfl⟩)
    · exact .inl ⟨x, hx, by unfold updOne; rw [if_pos h]; simp⟩
    · refine .inr ⟨e, he, ?_⟩
      rw [← hasL_iff] at h
      unfold newOne
      rw [if_pos (by omega)]
      simp

theorem updAll_tpls {xs : List Lk} {b : List Ev} {d : Doc} (h : xs.Pairwise (fun x y => x.tpl < y.tpl)) (hd : docErr d = 0) : (updAll xs b d.evs).Pairwise (fun x y => ¬ x.tpl = y.tpl) := by
  unfold updAll
  rw [List.pairwise_append]
  refine ⟨?_, ?_, ?_⟩
  · rw [List.pairwise_flatMap]
    refine ⟨fun x _ => ?_, h.imp fun {p q} hpq x hx y hy => ?_⟩
    · unfold updOne; split <;> simp
    · unfold updOne at hx hy
      split at hx <;> split at hy <;> simp at hx hy
      rw [hx, hy, (updLk_tpl p b d.evs).1, (updLk_tpl q b d.evs).1]
      omega
  · rw [List.pairwise_flatMap]
    refine ⟨fun x _ => ?_, (doc_nodup hd).imp fun {p q} hpq x hx y hy => ?_⟩
    · unfold newOne; split <;> simp
    · unfold newOne at hx hy
      split at hx <;> split at hy <;> simp at hx hy
      rw [hx, hy]
      exact hpq
  · intro x hx y hy
    obtain ⟨p, hp, hx⟩ := List.mem_flatMap.1 hx
    obtain ⟨e, he, hy⟩ := List.mem_flatMap.1 hy
    unfold updOne at hx
    unfold newOne at hy
    split at hx <;> split at hy <;> simp at hx hy
    rename_i h1 h2
    rw [hx, hy, (updLk_tpl p b d.evs).1]
    intro he2
    have := (hasL_iff xs e.id).2 ⟨p, hp, he2⟩
    omega
theorem updAll_tgts {xs : List Lk} {b a : List Ev} (h : xs.Pairwise TgtNe) : (updAll xs b a).Pairwise TgtNe := by
  unfold updAll
  rw [List.pairwise_append]
  refine ⟨?_, ?_, ?_⟩
  · rw [List.pairwise_flatMap]
    refine ⟨fun x _ => ?_, h.imp fun {p q} hpq x hx y hy => ?_⟩
    · unfold updOne; split <;> simp
    · unfold updOne at hx hy
      split at hx <;> split at hy <;> simp at hx hy
      unfold TgtNe at hpq ⊢
      rw [hx, hy, (updLk_tpl p b a).2, (updLk_tpl q b a).2]
      exact hpq
  · rw [List.pairwise_flatMap]
    refine ⟨fun x _ => ?_, List.Pairwise.imp (R := fun _ _ => True) (fun {p q} _ x hx y hy => ?_) (List.pairwise_of_forall (fun _ _ => trivial))⟩
    · unfold newOne; split <;> simp
    · unfold newOne at hx
      split at hx <;> simp at hx
      rw [hx]
      exact .inl rfl
  · intro x _ y hy
    obtain ⟨e, he, hy⟩ := List.mem_flatMap.1 hy
    unfold newOne at hy
    split at hy <;> simp at hy
    rw [hy]
    exact .inr (.inl rfl)

/-- THE PLAIN LAW. -/
theorem stays {xs ys : List Lk} {d d' after : Doc} (hc : chkErr xs d d' = 0) (ha : docErr after = 0) (hp : ys.Perm (updAll xs d.evs after.evs)) (hs : ys.Pairwise (fun x y => x.tpl ≤ y.tpl)) : chkErr ys after d' = 0 := by
  obtain ⟨h1, h2, hB⟩ := chk_zero hc
  obtain ⟨ok, asc, tn⟩ := form_ok hB.form
  have mem : ∀ y, y ∈ ys ↔ _ := fun y => hp.mem_iff.trans updAll_mem
  have cases_ : ∀ y ∈ ys, LkOk y ∧ (¬ y.st = 4 → ∃ e ∈ after.evs, e.id = y.tpl) ∧ (y.st = 4 → ¬ ∃ e ∈ after.evs, e.id = y.tpl) ∧ (¬ y.tgt = 0 → ∃ x ∈ xs, x.tgt = y.tgt) := by
    intro y hy
    rcases (mem y).1 hy with ⟨x, hx, hst, rfl⟩ | ⟨e, he, hne, rfl⟩
    · have hu := updLk_tpl x d.evs after.evs
      rcases upd_facts (ok x hx) d.evs after.evs with ⟨a1, a2, a3, a4⟩ | ⟨a1, ⟨a2, a3⟩ | ⟨a2, a3, a4, a5⟩⟩
      · exact ⟨a3, fun _ => by rw [hu.1]; exact a1, fun h => absurd h a4, fun _ => ⟨x, hx, hu.2.symm⟩⟩
      · rw [a3] at hst; cases hst
      · exact ⟨a4, fun h => absurd a5 h, fun _ => by rw [hu.1]; exact a1, fun _ => ⟨x, hx, hu.2.symm⟩⟩
    · have := doc_ids ha e he
      exact ⟨⟨this.1, this.2, by simp, by simp, by simp, by simp, by simp⟩, fun _ => ⟨e, he, rfl⟩, fun h => by simp at h, fun h => by simp at h⟩
  refine chk_mk ha h2 ⟨form_mk (fun y hy => (cases_ y hy).1) ?_ ?_, fun y hy => (cases_ y hy).2.1, fun y hy ht => ?_, fun y hy => (cases_ y hy).2.2.1, fun e he => ?_, fun e he => ?_⟩
  · have nd : ys.Pairwise (fun x y => ¬ x.tpl = y.tpl) := (hp.pairwise_iff (fun {x y} h => fun e => h e.symm)).2 (updAll_tpls asc ha)
    exact (hs.and nd).imp fun ⟨h, h'⟩ => by omega
  · exact (hp.pairwise_iff (fun {x y} h => by unfold TgtNe at *; omega)).2 (updAll_tgts tn)
  · obtain ⟨x, hx, hxe⟩ := (cases_ y hy).2.2.2 ht
    rw [← hxe]
    exact hB.tgt x hx (by rw [hxe]; exact ht)
  · by_cases hex : ∃ x ∈ xs, x.tpl = e.id
    · obtain ⟨x, hx, hxe⟩ := hex
      rcases upd_facts (ok x hx) d.evs after.evs with ⟨a1, a2, a3, a4⟩ | ⟨a1, _⟩
      · exact ⟨_, (mem _).2 (.inl ⟨x, hx, a2, rfl⟩), by rw [(updLk_tpl x d.evs after.evs).1]; exact hxe⟩
      · exact absurd ⟨e, he, hxe.symm⟩ a1
    · exact ⟨⟨e.id, 0, 3⟩, (mem _).2 (.inr ⟨e, he, hex, rfl⟩), rfl⟩
  · obtain ⟨x, hx, hxe⟩ := hB.aimed e he
    have hid := doc_ids h2 e he
    have okx := ok x hx
    rcases upd_facts okx d.evs after.evs with ⟨a1, a2, a3, a4⟩ | ⟨a1, ⟨a2, a3⟩ | ⟨a2, a3, a4, a5⟩⟩
    · exact ⟨_, (mem _).2 (.inl ⟨x, hx, a2, rfl⟩), by rw [(updLk_tpl x d.evs after.evs).2]; exact hxe⟩
    · unfold LkOk at okx
      omega
    · exact ⟨_, (mem _).2 (.inl ⟨x, hx, a3, rfl⟩), by rw [(updLk_tpl x d.evs after.evs).2]; exact hxe⟩

theorem stays_err {xs : List Lk} {d d' after : Doc} (hc : chkErr xs d d' = 0) (ha : docErr after = 0) : updErr xs d after = 0 := by
  obtain ⟨h1, h2, hB⟩ := chk_zero hc
  unfold updErr
  rw [if_neg (by rw [hB.form]; decide), if_neg (by rw [h1]; decide), if_neg (by rw [ha]; decide), if_neg (by rw [belongs h1 hB]; decide)]

end Go.Proofs.YtdgakmpopgpijaaGreatDoor
