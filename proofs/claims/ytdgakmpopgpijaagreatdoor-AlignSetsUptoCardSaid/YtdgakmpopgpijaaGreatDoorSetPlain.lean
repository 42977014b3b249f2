/- What Set and Drop answer: their errors and links, said of lists alone; that the reference's error is the same one. -/
import Derived.Test.YtdgakmpopgpijaaGreatDoorStays
import Derived.Test.YtdgakmpopgpijaaGreatDoorRef
set_option linter.unusedVariables false
namespace Go.Proofs.YtdgakmpopgpijaaGreatDoor
open Go.RowKit

/-- Whether a link other than the p-th one has a target. -/
def other (p : Int) (tgt : Int) : List Lk → Nat → Bool
  | [], _ => false
  | x :: l, k => if ¬ (k : Int) = p ∧ x.tgt = tgt then true else other p tgt l (k + 1)
theorem other_at (p tgt : Int) (xs : List Lk) (k : Nat) (x : Lk) (h : xs[k]? = some x) : other p tgt (xs.drop k) k = if ¬ (k : Int) = p ∧ x.tgt = tgt then true else other p tgt (xs.drop (k + 1)) (k + 1) := by
  rw [drop_at xs k x h, other]
theorem other_iff (p tgt : Int) : ∀ (l : List Lk) (k : Nat), other p tgt l k = true ↔ ∃ j x, l[j]? = some x ∧ ¬ ((k + j : Nat) : Int) = p ∧ x.tgt = tgt
  | [], k => by simp [other]
  | y :: l, k => by
    unfold other
    split
    · rename_i h
      simp only [true_iff]
      exact ⟨0, y, rfl, by simpa using h⟩
    · rename_i h
      rw [other_iff p tgt l (k + 1)]
      constructor
      · rintro ⟨j, x, h1, h2, h3⟩
        exact ⟨j + 1, x, by simpa using h1, by rw [show k + (j + 1) = k + 1 + j by omega]; exact h2, h3⟩
      · rintro ⟨j, x, h1, h2, h3⟩
        cases j with
        | zero =>
          obtain rfl : y = x := by simpa using h1
          exact absurd ⟨by simpa using h2, h3⟩ h
        | succ j => exact ⟨j, x, by simpa using h1, by rw [show k + 1 + j = k + (j + 1) by omega]; exact h2, h3⟩

/-- What lies where the first element with a property is. -/
theorem posFrom_get {α : Type} (p : α → Bool) : ∀ (xs : List α) (i k : Nat), posFrom p xs i = (k : Int) → i ≤ k → ∃ x, xs[k - i]? = some x ∧ p x = true
  | [], i, k, h, _ => by simp only [posFrom] at h; omega
  | y :: l, i, k, h, hk => by
    unfold posFrom at h
    split at h
    · rename_i hp
      obtain rfl : i = k := by omega
      exact ⟨y, by simp, hp⟩
    · rcases posFrom_bd p l (i + 1) with hb | hb
      · omega
      · obtain ⟨x, hx, hp⟩ := posFrom_get p l (i + 1) k h (by omega)
        refine ⟨x, ?_, hp⟩
        rw [show k - i = (k - (i + 1)) + 1 by omega]
        simpa using hx
theorem posOf_get {α : Type} (p : α → Bool) (xs : List α) (h : 0 ≤ posOf p xs) : ∃ (k : Nat) (x : α), posOf p xs = k ∧ k < xs.length ∧ xs[k]? = some x ∧ p x = true := by
  rcases posOf_bd p xs with hb | hb
  · omega
  · obtain ⟨k, hk⟩ : ∃ k : Nat, posOf p xs = (k : Int) := ⟨(posOf p xs).toNat, by omega⟩
    obtain ⟨x, hx, hp⟩ := posFrom_get p xs 0 k hk (Nat.zero_le _)
    exact ⟨k, x, hk, by omega, by simpa using hx, hp⟩

/-- The links in form, the k-th one found: the other ones' targets. -/
theorem other_aim {xs : List Lk} (hf : formB xs = true) {k : Nat} {x : Lk} (hx : xs[k]? = some x) {tgt : Int} (ht : 1 ≤ tgt) : other k tgt xs 0 = decide (¬ x.tgt = tgt ∧ aimB tgt xs = true) := by
  have hP := (form_ok hf).2.2
  have hk : k < xs.length := (List.getElem?_eq_some_iff.1 hx).1
  have hxe : xs[k] = x := (List.getElem?_eq_some_iff.1 hx).2
  rw [Bool.eq_iff_iff, other_iff, decide_eq_true_iff]
  constructor
  · rintro ⟨j, y, h1, h2, h3⟩
    simp only [Nat.zero_add] at h2
    have hj : j < xs.length := (List.getElem?_eq_some_iff.1 h1).1
    have hje : xs[j] = y := (List.getElem?_eq_some_iff.1 h1).2
    refine ⟨fun h4 => ?_, ?_⟩
    · rw [List.pairwise_iff_getElem] at hP
      rcases Nat.lt_or_gt_of_ne (show j ≠ k by omega) with hl | hl
      · have := hP j k hj hk hl
        rw [hje, hxe] at this
        unfold TgtNe at this
        omega
      · have := hP k j hk hj hl
        rw [hje, hxe] at this
        unfold TgtNe at this
        omega
    · unfold aimB
      rw [List.any_eq_true]
      exact ⟨y, List.mem_of_getElem? h1, by simpa using h3⟩
  · rintro ⟨h1, h2⟩
    unfold aimB at h2
    rw [List.any_eq_true] at h2
    obtain ⟨y, hy, h3⟩ := h2
    obtain ⟨j, hj⟩ := List.getElem?_of_mem hy
    refine ⟨j, y, hj, fun h4 => ?_, by simpa using h3⟩
    simp only [Nat.zero_add] at h4
    obtain rfl : j = k := by omega
    rw [hx] at hj
    obtain rfl : x = y := by simpa using hj
    exact h1 (by simpa using h3)

/-- The error of Set behind the form: at the place p of the link. -/
def setErr (xs : List Lk) (id tgt : Int) : Int := if formB xs = false then 4 else if posOf (hasTpl id) xs < 0 then 6 else if tgt < 1 then 2 else if 1099511627776 < tgt then 2 else match xs[(posOf (hasTpl id) xs).toNat]? with
  | none => 0
  | some x => if x.st = 4 then 17 else if other (posOf (hasTpl id) xs) tgt xs 0 = true then 7 else 0
/-- The links with a target set. -/
def setLks (xs : List Lk) (k : Nat) (tgt : Int) : List Lk := match xs[k]? with
  | none => xs
  | some x => xs.set k ⟨x.tpl, tgt, 1⟩

def SetPost (E : Int) (ys : List Lk) (w : World) (e : Ending) (w' : World) : Prop :=
  (∃ v, e = .returned (.tuple #[v, .int .i64 E]) ∧ (¬ E = 0 → v = .slice none 0 0) ∧ (E = 0 → ∃ a cap, v = .slice a ys.length cap ∧ LksAt w' a ys)) ∧ Below w.heap.size w w'
theorem SetPost.bad {E : Int} {ys : List Lk} {w w' : World} (h : ¬ E = 0) (hb : Below w.heap.size w w') : SetPost E ys w (.returned (.tuple #[.slice none 0 0, .int .i64 E])) w' :=
  ⟨⟨_, rfl, fun _ => rfl, fun h' => absurd h' h⟩, hb⟩
theorem SetPost.good {ys : List Lk} {w w' : World} {a : Option Addr} {cap : Nat} (hy : LksAt w' a ys) (hb : Below w.heap.size w w') : SetPost 0 ys w (.returned (.tuple #[.slice a ys.length cap, .int .i64 0])) w' :=
  ⟨⟨_, rfl, fun h => absurd rfl h, fun _ => ⟨a, cap, rfl, hy⟩⟩, hb⟩

/-- The error of Drop. -/
def dropErr (xs : List Lk) (id : Int) : Int := if formB xs = false then 4 else if posOf (hasTpl id) xs < 0 then 6 else match xs[(posOf (hasTpl id) xs).toNat]? with
  | none => 0
  | some x => if x.st = 4 then 0 else 17
def dropLks (xs : List Lk) (k : Nat) : List Lk := xs.take k ++ xs.drop (k + 1)

/-! ### encodings of lists of links -/
theorem lk_flat_set : ∀ (xs : List Lk) (k : Nat) (x y : Lk), xs[k]? = some x → y.tpl = x.tpl → ((xs.flatMap Lk.enc).set (k * 3 + 1) (.int .i64 y.tgt)).set (k * 3 + 2) (.int .u8 y.st) = (xs.set k y).flatMap Lk.enc
  | [], k, x, y, h, _ => by simp at h
  | z :: xs, 0, x, y, h, ht => by
    obtain rfl : z = x := by simpa using h
    simp [Lk.enc, ht]
  | z :: xs, k + 1, x, y, h, ht => by
    have ih := lk_flat_set xs k x y (by simpa using h) ht
    rw [List.set_cons_succ, List.flatMap_cons, List.flatMap_cons, ← ih]
    simp only [Lk.enc, List.cons_append, List.nil_append]
    rw [show (k + 1) * 3 + 1 = k * 3 + 1 + 1 + 1 + 1 by omega, show (k + 1) * 3 + 2 = k * 3 + 2 + 1 + 1 + 1 by omega]
    simp
theorem lk_enc_one (xs : List Lk) : ∀ u ∈ xs.flatMap Lk.enc, u.oneCell' = true := by
  intro u hu
  obtain ⟨x, _, hx⟩ := List.mem_flatMap.1 hu
  simp only [Lk.enc, List.mem_cons, List.not_mem_nil, or_false] at hx
  rcases hx with rfl | rfl | rfl <;> rfl
/-- The cells of links that came in. -/
theorem LksAt.cells {w : World} {b off : Nat} {xs : List Lk} (h : ∀ i x, xs[i]? = some x → (∀ j v, (Lk.enc x)[j]? = some v → w.cell? ⟨b, off + i * 3 + j, none⟩ = some v)) : ∀ j u, (xs.flatMap Lk.enc)[j]? = some u → w.cell? ⟨b, off + j, none⟩ = some u := by
  intro j u hu
  have hlen := flat_len Lk.enc 3 (fun _ => rfl) xs
  have hj := (List.getElem?_eq_some_iff.1 hu).1
  have hi : j / 3 < xs.length := by omega
  have e1 := flat_at Lk.enc 3 (fun _ => rfl) xs (j / 3) xs[j / 3] (j % 3) ((xs[j / 3]).enc[j % 3]!) (List.getElem?_eq_getElem hi) (getBang _ _ (by show j % 3 < 3; omega))
  rw [show j / 3 * 3 + j % 3 = j by omega, hu] at e1
  have := h (j / 3) xs[j / 3] (List.getElem?_eq_getElem hi) (j % 3) u (by rw [getBang (xs[j / 3]).enc (j % 3) (by show j % 3 < 3; omega)]; exact e1.symm)
  rw [show off + j / 3 * 3 + j % 3 = off + j by omega] at this
  exact this

end Go.Proofs.YtdgakmpopgpijaaGreatDoor
