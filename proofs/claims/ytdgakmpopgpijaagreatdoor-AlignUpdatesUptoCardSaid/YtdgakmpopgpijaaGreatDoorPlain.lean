/- Plain facts: what links in form and documents without an error hold; the joined contract of align.Update; the contract of the law's same. -/
import Derived.Test.YtdgakmpopgpijaaGreatDoorText
set_option linter.unusedVariables false
namespace Go.Proofs.YtdgakmpopgpijaaGreatDoor
open Go.RowKit

theorem formGo_all (xs : List Lk) : ∀ n k, formGo xs k n = true → ∀ j x, k ≤ j → j < k + n → xs[j]? = some x → ¬ (lkBad (aheadOf xs j) x ∨ seenAt xs j x.tgt = true)
  | 0, k, _, j, x, h1, h2, _ => by omega
  | n + 1, k, h, j, x, h1, h2, hx => by
    rw [formGo] at h
    by_cases hj : j = k
    · subst hj
      rw [hx] at h
      simp only at h
      split at h
      · cases h
      · assumption
    · have hk : k < xs.length := by have := (List.getElem?_eq_some_iff.1 hx).1; omega
      rw [List.getElem?_eq_getElem hk] at h
      simp only at h
      split at h
      · cases h
      · exact formGo_all xs n (k + 1) h j x (by omega) (by omega) hx
theorem form_all {xs : List Lk} (h : formB xs = true) (j : Nat) (x : Lk) (hx : xs[j]? = some x) : ¬ (lkBad (aheadOf xs j) x ∨ seenAt xs j x.tgt = true) :=
  formGo_all xs _ 0 h j x (Nat.zero_le _) (by have := (List.getElem?_eq_some_iff.1 hx).1; omega) hx
theorem form_in {xs : List Lk} (h : formB xs = true) (x : Lk) (hx : x ∈ xs) : 1 ≤ x.tpl ∧ x.tpl ≤ 1099511627776 := by
  obtain ⟨j, hj⟩ := List.getElem?_of_mem hx
  have := form_all h j x hj
  unfold lkBad at this
  omega

theorem evsGo_all (regs : List Reg) (last : Int) (evs : List Ev) : ∀ n k, evsGo regs last evs k n = 0 → ∀ j x, k ≤ j → j < k + n → evs[j]? = some x → evStep regs last (seenEv evs j) (aheadOf evs j) x = 0
  | 0, k, _, j, x, h1, h2, _ => by omega
  | n + 1, k, h, j, x, h1, h2, hx => by
    rw [evsGo] at h
    have hk : k < evs.length := by have := (List.getElem?_eq_some_iff.1 hx).1; omega
    rw [List.getElem?_eq_getElem hk] at h
    simp only at h
    split at h
    · rename_i hne
      rw [h] at hne
      cases hne
    · rename_i hne
      by_cases hj : j = k
      · subst hj
        rw [List.getElem?_eq_getElem hk] at hx
        obtain rfl : evs[j] = x := by simpa using hx
        simpa using hne
      · exact evsGo_all regs last evs n (k + 1) h j x (by omega) (by omega) hx

theorem doc_parts {d : Doc} (h : docErr d = 0) : d.evs.length ≤ 400 ∧ d.last ≤ 1099511627776 ∧ (∀ j x, d.evs[j]? = some x → evStep d.regs d.last (seenEv d.evs j) (aheadOf d.evs j) x = 0) := by
  unfold docErr at h
  split at h
  · rename_i hne; rw [h] at hne; cases hne
  · rename_i hhd
    split at h
    · rename_i hne; rw [h] at hne; cases hne
    · split at h
      · cases h
      · rename_i h4
        refine ⟨by omega, ?_, fun j x hx => ?_⟩
        · have h0 : headErr d.title d.lang d.rate d.drop d.last = 0 := by simpa using hhd
          unfold headErr at h0
          repeat' split at h0
          all_goals first | omega | (cases h0) | (rename_i hq; rw [h0] at hq; cases hq)
        · unfold restErr at h
          split at h
          · rename_i hne; rw [h] at hne; cases hne
          · rename_i hne
            exact evsGo_all d.regs d.last d.evs _ 0 (by simpa using hne) j x (Nat.zero_le _) (by have := (List.getElem?_eq_some_iff.1 hx).1; omega) hx
theorem evStep_zero {regs : List Reg} {last : Int} {f : Int → Option Nat} {prev : Option Ev} {x : Ev} (h : evStep regs last f prev x = 0) : 1 ≤ x.id ∧ x.id ≤ 1099511627776 ∧ x.id ≤ last ∧ (f x.id).isSome = false ∧ evLate prev x = false := by
  rcases evStep_cases regs last f prev x _ rfl with ⟨h1, h2⟩ | ⟨h1, ⟨h2, h3⟩ | ⟨h2, ⟨h3, h4⟩ | ⟨h3, ⟨h4, h5⟩ | ⟨h4, h5⟩⟩⟩⟩
  · rw [← h2, h] at h1; cases h1
  · rw [h] at h3; cases h3
  · rw [h] at h4; cases h4
  · rw [h] at h5; cases h5
  · have he : evHead x (findR regs x.region).2 = 0 := by
      unfold evErr at h1
      split at h1
      · rename_i hne; rw [h1] at hne; cases hne
      · rename_i hne; simpa using hne
    rcases ev_cases x (findR regs x.region).2 with ⟨e, _⟩ | ⟨e, _⟩ | ⟨i1, i2, _⟩
    · rw [he] at e; cases e
    · rw [he] at e; cases e
    · exact ⟨i1, i2, h2, h4, h3⟩
theorem doc_ids {d : Doc} (h : docErr d = 0) (x : Ev) (hx : x ∈ d.evs) : 1 ≤ x.id ∧ x.id ≤ 1099511627776 := by
  obtain ⟨j, hj⟩ := List.getElem?_of_mem hx
  have := evStep_zero ((doc_parts h).2.2 j x hj)
  exact ⟨this.1, this.2.1⟩

theorem updLk_tpl (x : Lk) (b a : List Ev) : (updLk x b a).1.tpl = x.tpl ∧ (updLk x b a).1.tgt = x.tgt := by
  unfold updLk
  repeat' split
  all_goals exact ⟨rfl, rfl⟩
theorem updAll_in {xs : List Lk} {d d' : Doc} (h1 : formB xs = true) (h3 : docErr d' = 0) (x : Lk) (hx : x ∈ updAll xs d.evs d'.evs) : InR x := by
  unfold updAll at hx
  rcases List.mem_append.1 hx with hx | hx
  · obtain ⟨y, hy, hm⟩ := List.mem_flatMap.1 hx
    unfold updOne at hm
    split at hm
    · obtain rfl : x = (updLk y d.evs d'.evs).1 := by simpa using hm
      have := form_in h1 y hy
      unfold InR
      rw [(updLk_tpl y d.evs d'.evs).1]
      omega
    · simp at hm
  · obtain ⟨y, hy, hm⟩ := List.mem_flatMap.1 hx
    unfold newOne at hm
    split at hm
    · obtain rfl : x = ⟨y.id, 0, 3⟩ := by simpa using hm
      have := doc_ids h3 y hy
      exact ⟨by simp only; omega, this.2⟩
    · simp at hm

theorem update_calls (a : Option Addr) (cap : Nat) (xs : List Lk) (d d' : Doc) (w : World) (hE : Env w) (hx : LksAt w a xs) (hfx : ∀ x ∈ xs, x.fits) (hlx : xs.length ≤ 4000000) (hd : d.lies w) (hd' : d'.lies w) (hf : d.fits) (hf' : d'.fits) :
    Calls Tryz.prog 8 #[.slice a xs.length cap, .agg d.enc.toArray, .agg d'.enc.toArray] w (UpdatePost xs d d' w) := by
  cases h1 : formB xs
  · exact update_form a cap xs d d' w hE hx hfx hlx hd hd' hf hf' h1
  · by_cases h2 : docErr d = 0
    · by_cases h3 : docErr d' = 0
      · cases h4 : belongB xs d.evs
        · exact update_belong a cap xs d d' w hE hx hfx hlx hd hd' hf hf' h1 h2 h3 h4
        · exact update_good a cap xs d d' w hE hx hfx hlx hd hd' hf hf' h1 h2 h3 h4 (updAll_in h1 h3)
      · exact update_after a cap xs d d' w hE hx hfx hlx hd hd' hf hf' h1 h2 (by simpa using h3)
    · exact update_before a cap xs d d' w hE hx hfx hlx hd hd' hf hf' h1 (by simpa using h2)

/-! ### the law's same -/
def lkEq (x y : Lk) : Bool := x.tpl == y.tpl && x.tgt == y.tgt && x.st == y.st
theorem lkEq_iff (x y : Lk) : lkEq x y = decide (x = y) := by
  obtain ⟨a, b, c⟩ := x
  obtain ⟨a', b', c'⟩ := y
  unfold lkEq
  by_cases h1 : a = a' <;> by_cases h2 : b = b' <;> by_cases h3 : c = c' <;> simp [h1, h2, h3]
theorem run_lkNe (x y : Lk) (w : World) : (binOp .neq 49 (.agg x.enc.toArray) (.agg y.enc.toArray)).run Tryz.prog w = .ok (.bool (!lkEq x y)) w := by
  simp [go_sem, Lk.enc, lkEq]
  repeat' split
  all_goals simp_all
theorem allEq_lk : ∀ xs ys : List Lk, Lib.allEq lkEq xs ys = decide (xs = ys)
  | [], [] => by rw [Lib.allEq]; rfl
  | [], y :: ys => by rw [Lib.allEq_len _ _ _ (by simp)]; rfl
  | x :: xs, [] => by rw [Lib.allEq_len _ _ _ (by simp)]; rfl
  | x :: xs, y :: ys => by rw [Lib.allEq, allEq_lk xs ys, lkEq_iff]; by_cases h : x = y <;> simp [h]

theorem same10_len (a a' : Option Addr) (n m c c' : Nat) (w : World) (h : ¬ n = m) : Calls Tryz.prog 10 #[.slice a n c, .slice a' m c'] w fun e w' => e = .returned (.bool false) ∧ w = w' := by
  have h1 : (n != m) = true := by simpa using h
  have h2 : ((n : Int) != (m : Int)) = true := by simp; omega
  go_enter Tryz.func10, Tryz.ntmps10
  go_wp2_with fail
  go_ret
  exact ⟨rfl, rfl⟩

set_option maxHeartbeats 1600000 in
theorem same10_eq (a a' : Option Addr) (c c' : Nat) (xs ys : List Lk) (w : World) (h : LksAt w a xs) (h' : LksAt w a' ys) (hl : xs.length ≤ 8000000) (hn : xs.length = ys.length) :
    Calls Tryz.prog 10 #[.slice a xs.length c, .slice a' ys.length c'] w fun e w' => e = .returned (.bool (Lib.allEq lkEq xs ys)) ∧ Below w.heap.size w w' := by
  generalize hG : Lib.allEq lkEq xs ys = G
  have H0 := Lib.hid (show Lib.allEq lkEq (xs.drop 0) (ys.drop 0) = G from hG)
  have HNN := Lib.hid hn
  rw [← hn]
  clear hG hn
  have h1 : ((xs.length : Int) != (xs.length : Int)) = false := by simp
  go_enter Tryz.func10, Tryz.ntmps10
  go_wp2_with fail
  go_loopw [13] (fun i wr => ∃ k : Nat, k ≤ xs.length ∧ i = .int .i64 k ∧ Lib.allEq lkEq (xs.drop k) (ys.drop k) = G ∧ Below w.heap.size w wr) (fun i _ => xs.length - (intOf i).toNat)
  case atStart => exact ⟨0, by omega, rfl, H0.out, Below.refl _ _⟩
  case round =>
    obtain ⟨k, hk, rfl, hp, hb⟩ := hrel
    by_cases hlt : k < xs.length
    · obtain ⟨b, off, r, rfl, hbl, hx, hc, hok⟩ := (h.later hb).at_ hlt
      obtain ⟨b', off', s, rfl, hbl', hy, hc', hok'⟩ := (h'.later hb).at_ (show k < ys.length by rw [← HNN.out]; exact hlt)
      rw [allEq_at lkEq xs ys k r s hx hy] at hp
      have hne := run_lkNe r s
      have HP := Lib.hid hp
      have hltd : decide (k < xs.length) = true := by simpa using hlt
      generalize lkEq r s = E at *
      obtain ⟨rt, rg, rs⟩ := r
      obtain ⟨st, sg, sss⟩ := s
      simp only [Lk.enc] at hne
      have d0 := hc 0 _ rfl; have d1 := hc 1 _ rfl; have d2 := hc 2 _ rfl
      have e0 := hc' 0 _ rfl; have e1 := hc' 1 _ rfl; have e2 := hc' 2 _ rfl
      simp only [Nat.add_zero] at d0 d1 d2 e0 e1 e2
      clear hc hc' hp hx hy hok hok' H0
      have hlt2 : (k : Int) < (xs.length : Int) := by omega
      cases E
      · go_wp2_with fail
        go_quiet (fail)
        go_wp2_with fail
        go_ret
        exact ⟨by rw [← HP.out]; rfl, below_drewN hb _⟩
      · go_wp2_with fail
        go_quiet (fail)
        go_wp2_with fail
        go_roundw
        case rel => exact ⟨k + 1, by omega, by go_num, by rw [← HP.out]; simp, below_drewN hb _⟩
        case measure => simp [intOf]; omega
    · obtain rfl : k = xs.length := by omega
      have hp2 : true = G := by
        rw [← hp, List.drop_length, HNN.out, List.drop_length, allEq_nil]
      have HP := Lib.hid hp2
      clear hp hp2 H0
      go_wp2_with fail
      go_ret
      exact ⟨by rw [← HP.out]; rfl, hb⟩

theorem same_links (a a' : Option Addr) (c c' : Nat) (xs ys : List Lk) (w : World) (h : LksAt w a xs) (h' : LksAt w a' ys) (hl : xs.length ≤ 8000000) :
    Calls Tryz.prog 10 #[.slice a xs.length c, .slice a' ys.length c'] w fun e w' => e = .returned (.bool (decide (xs = ys))) ∧ Below w.heap.size w w' := by
  by_cases hn : xs.length = ys.length
  · rw [← allEq_lk]
    exact same10_eq a a' c c' xs ys w h h' hl hn
  · have : ¬ xs = ys := fun h => hn (by rw [h])
    rw [decide_eq_false this]
    exact (same10_len a a' _ _ c c' w hn).mono fun e w' ⟨he, hw⟩ => ⟨he, hw ▸ Below.refl _ _⟩

end Go.Proofs.YtdgakmpopgpijaaGreatDoor
