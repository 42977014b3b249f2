/- The contracts of style.Same and style.SameRows: whether rows are equal. -/
import Derived.Test.YtdgakmpopgpijaaGreatDoorRowLen
set_option linter.unusedVariables false
namespace Go.Proofs.YtdgakmpopgpijaaGreatDoor
open Go.RowKit

/-- Whether two runs are equal. -/
def runEq (a b : Run) : Bool := a.text.toList == b.text.toList && (a.color == b.color && a.it == b.it && a.un == b.un) && a.ruby.toList == b.ruby.toList
/-- Whether two rows are equal. -/
def rowEq (a b : Row) : Bool := Lib.allEq runEq a.runs b.runs
/-- Whether two lists of rows are equal. -/
def rowsEq (a b : List Row) : Bool := Lib.allEq rowEq a b

instance : Inhabited Run := ⟨⟨⟨#[]⟩, 0, false, false, ⟨#[]⟩⟩⟩
instance : Inhabited Row := ⟨⟨none, 0, []⟩⟩
theorem getBang {α : Type} [Inhabited α] (xs : List α) (j : Nat) (h : j < xs.length) : xs[j]? = some xs[j]! := by
  rw [List.getElem?_eq_getElem h, getElem!_pos xs j h]

theorem run_runNe (x y : Run) (w : World) : (binOp .neq 85 (.agg x.enc.toArray) (.agg y.enc.toArray)).run Tryz.prog w = .ok (.bool (!runEq x y)) w := by
  simp [go_sem, Run.enc, runEq]
  repeat' split
  all_goals simp_all
theorem runNe : Go.Proofs.NeqAt Tryz.prog 85 (fun x => .agg (Run.enc x).toArray) runEq := ⟨run_runNe, Go.Proofs.GuardAt.agg (fun x => (Run.enc x).toArray) (by kernel_rfl)⟩

theorem equal119_len (a a' : Option Addr) (n m c c' : Nat) (w : World) (h : ¬ n = m) : Calls Tryz.prog 119 #[.slice a n c, .slice a' m c'] w fun e w' => e = .returned (.bool false) ∧ w = w' := by
  have h1 : (n != m) = true := by simpa using h
  have h2 : ((n : Int) != (m : Int)) = true := by simp; omega
  go_enter Tryz.func119, Tryz.ntmps119
  go_wp2_with fail
  go_ret
  exact ⟨rfl, rfl⟩
theorem equal119_none (a a' : Option Addr) (c c' : Nat) (w : World) : Calls Tryz.prog 119 #[.slice a 0 c, .slice a' 0 c'] w fun e w' => e = .returned (.bool true) ∧ w = w' := by
  go_enter Tryz.func119, Tryz.ntmps119
  go_wp2_with fail
  refine wp_loop_rounds 1 ?_
  rw [rounds_succ]
  go_wp2_with fail
  go_ret
  exact ⟨rfl, rfl⟩

theorem allEq_nil {α : Type} (eq : α → α → Bool) : Lib.allEq eq [] [] = true := by rw [Lib.allEq]

theorem equal119_calls (a a' : Option Addr) (c c' : Nat) (xs ys : List Run) (w : World) (h : Runs w a xs) (h' : Runs w a' ys) (hl : xs.length ≤ 4000000) (hl' : ys.length ≤ 4000000) :
    Calls Tryz.prog 119 #[.slice a xs.length c, .slice a' ys.length c'] w fun e w' => e = .returned (.bool (Lib.allEq runEq xs ys)) ∧ Below w.heap.size w w' := by
  by_cases hn : xs.length = ys.length
  · rcases h with rfl | ⟨b, off, rfl, hb, hc⟩
    · obtain rfl : ys = [] := List.eq_nil_of_length_eq_zero hn.symm
      rw [allEq_nil]
      exact (equal119_none a a' c c' w).mono fun e w' ⟨he, hw⟩ => ⟨he, hw ▸ Below.refl _ _⟩
    · rcases h' with rfl | ⟨b', off', rfl, hb', hc'⟩
      · obtain rfl : xs = [] := List.eq_nil_of_length_eq_zero hn
        rw [allEq_nil]
        exact (equal119_none _ a' c c' w).mono fun e w' ⟨he, hw⟩ => ⟨he, hw ▸ Below.refl _ _⟩
      · have h := Tryz.slices_Equal_f119 5 (fun w => by kernel_rfl) (fun w => by kernel_rfl) Run.enc (fun _ => rfl) runEq runNe b off xs.length c b' off' ys.length c' xs ys w (Nat.le_refl _) (Nat.le_refl _) (by omega) (by omega)
          (fun j hj i v hv => (hc j _ (getBang xs j hj)).1 i v hv) (fun j hj i v hv => (hc' j _ (getBang ys j hj)).1 i v hv)
        rw [List.take_length, List.take_length] at h
        exact h.mono fun e w' ⟨he, q, hw⟩ => ⟨he, hw ▸ below_drewN (Below.refl _ _) q⟩
  · rw [Lib.allEq_len runEq xs ys hn]
    exact (equal119_len a a' _ _ c c' w hn).mono fun e w' ⟨he, hw⟩ => ⟨he, hw ▸ Below.refl _ _⟩

theorem same_calls (r s : Row) (w : World) (h : r.lies w) (h' : s.lies w) (hl : r.runs.length ≤ 4000000) (hl' : s.runs.length ≤ 4000000) :
    Calls Tryz.prog 79 #[.agg r.enc.toArray, .agg s.enc.toArray] w fun e w' => e = .returned (.bool (rowEq r s)) ∧ Below w.heap.size w w' := by
  have hb2 : ∀ o o', Below w.heap.size w ((w.alloc o).alloc o') := fun o o' => ((Below.refl _ _).alloc (Nat.le_refl _) _).alloc (by simp) _
  have HC := Lib.hid (fun o o' => equal119_calls r.at_ s.at_ r.cap s.cap r.runs s.runs ((w.alloc o).alloc o') (h.later (hb2 o o')) (h'.later (hb2 o o')) hl hl')
  have HB := Lib.hid (fun o o' w1 (h1 : Below ((w.alloc o).alloc o').heap.size ((w.alloc o).alloc o') w1) => (hb2 o o').trans (h1.mono (by simp; omega)))
  unfold rowEq
  obtain ⟨ra, rc, rr⟩ := r
  obtain ⟨sa, sc, ss⟩ := s
  simp only [Row.enc] at HC ⊢
  generalize Lib.allEq runEq rr ss = G at *
  clear hb2
  go_enter Tryz.func79, Tryz.ntmps79
  go_wp2_with fail
  refine (HC.out _ _).mono ?_
  rintro e w1 ⟨rfl, hb⟩
  have hb' := HB.out _ _ _ hb
  clear hb
  go_wp2_with fail
  go_ret
  exact ⟨rfl, hb'⟩

theorem efunc_len (a a' : Option Addr) (n m c c' : Nat) (v : Value) (w : World) (h : ¬ n = m) : Calls Tryz.prog 78 #[.slice a n c, .slice a' m c', v] w fun e w' => e = .returned (.bool false) ∧ w = w' := by
  have h1 : (n != m) = true := by simpa using h
  have h2 : ((n : Int) != (m : Int)) = true := by simp; omega
  go_enter Tryz.func78, Tryz.ntmps78
  go_wp2_with fail
  go_ret
  exact ⟨rfl, rfl⟩

theorem allEq_at {α : Type} (eq : α → α → Bool) (xs ys : List α) (k : Nat) (x y : α) (hx : xs[k]? = some x) (hy : ys[k]? = some y) : Lib.allEq eq (xs.drop k) (ys.drop k) = (eq x y && Lib.allEq eq (xs.drop (k + 1)) (ys.drop (k + 1))) := by
  rw [drop_at xs k x hx, drop_at ys k y hy, Lib.allEq]

def RowsAt' (w : World) (a : Option Addr) (xs : List Row) : Prop := SliceOf 1 Row.enc Row.lies w a xs

set_option maxHeartbeats 1600000 in
theorem efunc_calls (a a' : Option Addr) (c c' : Nat) (xs ys : List Row) (w : World) (h : RowsAt' w a xs) (h' : RowsAt' w a' ys) (hf : ∀ r ∈ xs, r.runs.length ≤ 4000000) (hf' : ∀ r ∈ ys, r.runs.length ≤ 4000000) (hl : xs.length ≤ 4000000) (hn : xs.length = ys.length) :
    Calls Tryz.prog 78 #[.slice a xs.length c, .slice a' ys.length c', .func (.func 79) #[] #[]] w fun e w' => e = .returned (.bool (rowsEq xs ys)) ∧ Below w.heap.size w w' := by
  generalize hG : rowsEq xs ys = G
  have H0 := Lib.hid (show Lib.allEq rowEq (xs.drop 0) (ys.drop 0) = G from hG)
  have HNN := Lib.hid hn
  rw [← hn]
  clear hG hn
  have h1 : ((xs.length : Int) != (xs.length : Int)) = false := by simp
  go_enter Tryz.func78, Tryz.ntmps78
  go_wp2_with fail
  go_loopw [17] (fun i wr => ∃ k : Nat, k ≤ xs.length ∧ i = .int .i64 k ∧ Lib.allEq rowEq (xs.drop k) (ys.drop k) = G ∧ Below w.heap.size w wr) (fun i _ => xs.length - (intOf i).toNat)
  case atStart => exact ⟨0, by omega, rfl, H0.out, Below.refl _ _⟩
  case round =>
    obtain ⟨k, hk, rfl, hp, hb⟩ := hrel
    by_cases hlt : k < xs.length
    · obtain ⟨b, off, r, rfl, hbl, hx, hc, hok⟩ := (SliceOf.keeps Row.keeps _ _ _ _ hb h).at_ hlt
      obtain ⟨b', off', s, rfl, hbl', hy, hc', hok'⟩ := (SliceOf.keeps Row.keeps _ _ _ _ hb h').at_ (show k < ys.length by rw [← HNN.out]; exact hlt)
      rw [allEq_at rowEq xs ys k r s hx hy] at hp
      have hfr := hf r (List.mem_of_getElem? hx)
      have hfs := hf' s (List.mem_of_getElem? hy)
      have hb2 : ∀ o o', Below wr.heap.size wr ((wr.alloc o).alloc o') := fun o o' => ((Below.refl _ _).alloc (Nat.le_refl _) _).alloc (by simp) _
      have HC := Lib.hid (fun o o' => same_calls r s ((wr.alloc o).alloc o') (Row.keeps _ _ _ (hb2 o o') hok) (Row.keeps _ _ _ (hb2 o o') hok') hfr hfs)
      have HB := Lib.hid (fun o o' w1 (h1 : Below ((wr.alloc o).alloc o').heap.size ((wr.alloc o).alloc o') w1) => hb.trans (((hb2 o o').trans (h1.mono (by simp; omega))).mono hb.size))
      have HP := Lib.hid hp
      generalize rowEq r s = E at *
      obtain ⟨ra, rc, rr⟩ := r
      obtain ⟨sa, sc, ss⟩ := s
      simp only [Row.enc] at HC
      have d0 := hc 0 _ rfl
      have d0' := hc' 0 _ rfl
      simp only [Nat.add_zero, Nat.mul_one] at d0 d0'
      have dd : ∀ o, (wr.alloc o).cell? ⟨b', off' + k, none⟩ = some (.slice sa ss.length sc) := fun o => (World.cell?_alloc_lt _ _ _ (by simpa using hbl')).trans d0'
      clear hc hc' hp hx hy hok hok' hb2 hfr hfs H0 d0'
      cases E
      · go_wp2_with (go_at_call 79; refine (HC.out _ _).mono ?_; rintro e w1 ⟨rfl, hb1⟩; have hb1' := HB.out _ _ _ hb1; clear hb1)
        go_ret
        exact ⟨by rw [← HP.out]; rfl, hb1'⟩
      · go_wp2_with (go_at_call 79; refine (HC.out _ _).mono ?_; rintro e w1 ⟨rfl, hb1⟩; have hb1' := HB.out _ _ _ hb1; clear hb1)
        go_roundw
        case rel => exact ⟨k + 1, by omega, by go_num, by rw [← HP.out]; simp, hb1'⟩
        case measure => simp [intOf]; omega
    · obtain rfl : k = xs.length := by omega
      have hp2 : true = G := by
        rw [← hp, List.drop_length, HNN.out, List.drop_length, allEq_nil]
      have HP := Lib.hid hp2
      clear hp hp2 H0
      go_wp2_with fail
      go_ret
      exact ⟨by rw [← HP.out]; rfl, hb⟩

theorem sameRows_calls (a a' : Option Addr) (c c' : Nat) (xs ys : List Row) (w : World) (h : RowsAt' w a xs) (h' : RowsAt' w a' ys) (hf : ∀ r ∈ xs, r.runs.length ≤ 4000000) (hf' : ∀ r ∈ ys, r.runs.length ≤ 4000000) (hl : xs.length ≤ 4000000) :
    Calls Tryz.prog 52 #[.slice a xs.length c, .slice a' ys.length c'] w fun e w' => e = .returned (.bool (rowsEq xs ys)) ∧ Below w.heap.size w w' := by
  have HC : Hid (Calls Tryz.prog 78 #[.slice a xs.length c, .slice a' ys.length c', .func (.func 79) #[] #[]] w fun e w' => e = .returned (.bool (rowsEq xs ys)) ∧ Below w.heap.size w w') := by
    apply Lib.hid
    by_cases hn : xs.length = ys.length
    · exact efunc_calls a a' c c' xs ys w h h' hf hf' hl hn
    · rw [rowsEq, Lib.allEq_len rowEq xs ys hn]
      exact (efunc_len a a' _ _ c c' _ w hn).mono fun e w' ⟨he, hw⟩ => ⟨he, hw ▸ Below.refl _ _⟩
  go_enter Tryz.func52, Tryz.ntmps52
  go_wp2_with fail
  refine HC.out.mono ?_
  rintro e w1 ⟨rfl, hb⟩
  go_wp2_with fail
  go_ret
  exact ⟨rfl, hb⟩

end Go.Proofs.YtdgakmpopgpijaaGreatDoor
