/- Plain laws on ascending lists without repetitions, and slices.Sort and slices.Compact on rows of the call's own. diff.keys at regions, events and comments: the keys of two lists, ascending, each once. (printed by gen_keys.py) The contracts of style.Same and style.SameRows: whether rows are equal. The contracts of align.Find, document.Find and align.has: where a link or an event with an ID lies. -/
import Derived.Lib.OwnBridge
import Derived.Lib.RowBridge
import Derived.Test.YtnlnmbcaongehaaGreatDoorBase01
import Derived.Test.YtnlnmbcaongehaaGreatDoorBase00
import Derived.Test.YtnlnmbcaongehaaGreatDoorBase04
import Derived.Test.YtnlnmbcaongehaaGreatDoorBase02
import Derived.Test.YtnlnmbcaongehaaGreatDoorBase03
set_option linter.unusedVariables false
set_option linter.unusedSimpArgs false
namespace Go.Proofs.YtnlnmbcaongehaaGreatDoor
open Go.RowKit
theorem keeps_iff {α : Type} [Inhabited α] [DecidableEq α] (d : Array α) (j : Nat) : Lib.keeps d j = true ↔ j = 0 ∨ d[j]! ≠ d[j - 1]! := by
  unfold Lib.keeps
  simp
/-- Behind Compact of an ascending list: ascending without repetitions, with the same elements. -/
theorem compactUpTo_sorted {α : Type} [Inhabited α] [DecidableEq α] (le lt : α → α → Prop) (hlt : ∀ a b, le a b → a ≠ b → lt a b) (htr : ∀ a b c, le a b → lt b c → lt a c) (d : Array α) (hs : ∀ i j, i < j → j < d.size → le d[i]! d[j]!) :
    ∀ m, m ≤ d.size → (Lib.compactUpTo d m).Pairwise lt ∧ (∀ x, x ∈ Lib.compactUpTo d m ↔ ∃ j, j < m ∧ d[j]! = x) ∧ (∀ x ∈ Lib.compactUpTo d m, 0 < m → (x = d[m - 1]! ∨ lt x d[m - 1]!))
  | 0, _ => ⟨by simp [Lib.compactUpTo], by simp [Lib.compactUpTo], by simp [Lib.compactUpTo]⟩
  | m + 1, hm => by
    obtain ⟨h1, h2, h3⟩ := compactUpTo_sorted le lt hlt htr d hs m (by omega)
    rw [Lib.compactUpTo_succ]
    by_cases hk : Lib.keeps d m = true
    · rw [if_pos hk]
      have hk' := (keeps_iff d m).1 hk
      have hnew : ∀ x ∈ Lib.compactUpTo d m, lt x d[m]! := fun x hx => by
        rcases Nat.eq_zero_or_pos m with h0 | h0
        · subst h0
          simp [Lib.compactUpTo] at hx
        · have hne : d[m]! ≠ d[m - 1]! := by
            rcases hk' with h | h
            · omega
            · exact h
          have hl := hlt _ _ (hs (m - 1) m (by omega) (by omega)) (fun e => hne e.symm)
          rcases h3 x hx h0 with rfl | h
          · exact hl
          · obtain ⟨j, hj, rfl⟩ := (h2 x).1 hx
            by_cases hjm : j = m - 1
            · rw [hjm]; exact hl
            · exact htr _ _ _ (hs j (m - 1) (by omega) (by omega)) hl
      refine ⟨List.pairwise_append.2 ⟨h1, List.pairwise_singleton _ _, fun a ha b hb => ?_⟩, fun x => ?_, fun x hx _ => ?_⟩
      · obtain rfl : b = d[m]! := by simpa using hb
        exact hnew a ha
      · rw [List.mem_append, h2]
        constructor
        · rintro (⟨j, hj, rfl⟩ | hx)
          · exact ⟨j, by omega, rfl⟩
          · exact ⟨m, by omega, (List.mem_singleton.1 hx).symm⟩
        · rintro ⟨j, hj, rfl⟩
          by_cases hjm : j = m
          · right; rw [hjm]; simp
          · left; exact ⟨j, by omega, rfl⟩
      · simp only [Nat.add_sub_cancel]
        rcases List.mem_append.1 hx with hx | hx
        · exact .inr (hnew x hx)
        · exact .inl (by simpa using hx)
    · rw [if_neg hk, List.append_nil]
      have hk' : ¬ (m = 0 ∨ d[m]! ≠ d[m - 1]!) := fun h => hk ((keeps_iff d m).2 h)
      have hm0 : m ≠ 0 := fun e => hk' (.inl e)
      have heq : d[m]! = d[m - 1]! := Classical.byContradiction fun e => hk' (.inr e)
      refine ⟨h1, fun x => ?_, fun x hx _ => ?_⟩
      · rw [h2]
        constructor
        · rintro ⟨j, hj, rfl⟩; exact ⟨j, by omega, rfl⟩
        · rintro ⟨j, hj, rfl⟩
          by_cases hjm : j = m
          · exact ⟨m - 1, by omega, by rw [hjm]; exact heq.symm⟩
          · exact ⟨j, by omega, rfl⟩
      · simp only [Nat.add_sub_cancel]
        rw [heq]
        exact h3 x hx (by omega)
theorem compact_sorted {α : Type} [Inhabited α] [DecidableEq α] (le lt : α → α → Prop) (hlt : ∀ a b, le a b → a ≠ b → lt a b) (htr : ∀ a b c, le a b → lt b c → lt a c) (zs : List α) (hs : zs.Pairwise le) : (Lib.compact zs).Pairwise lt ∧ ∀ x, x ∈ Lib.compact zs ↔ x ∈ zs := by
  have h := compactUpTo_sorted le lt hlt htr zs.toArray (fun i j hij hj => by
    have hj' : j < zs.length := by simpa using hj
    rw [getElem!_pos zs.toArray i (by simp; omega), getElem!_pos zs.toArray j hj]
    simpa using List.pairwise_iff_getElem.1 hs i j (by omega) hj' hij) zs.length (by simp)
  refine ⟨h.1, fun x => ?_⟩
  rw [show Lib.compact zs = Lib.compactUpTo zs.toArray zs.length from rfl, h.2.1]
  constructor
  · rintro ⟨j, hj, rfl⟩
    rw [getElem!_pos zs.toArray j (by simpa using hj)]
    simp
  · intro hx
    obtain ⟨j, hj, rfl⟩ := List.getElem_of_mem hx
    exact ⟨j, hj, by rw [getElem!_pos zs.toArray j (by simpa using hj)]; simp⟩
/-- Two ascending lists without repetitions with the same elements are equal. -/
theorem asc_ext {α : Type} (lt : α → α → Prop) (hir : ∀ a, ¬ lt a a) (hasy : ∀ a b, lt a b → lt b a → False) : ∀ (xs ys : List α), xs.Pairwise lt → ys.Pairwise lt → (∀ x, x ∈ xs ↔ x ∈ ys) → xs = ys
  | [], [], _, _, _ => rfl
  | [], y :: ys, _, _, h => absurd ((h y).2 (by simp)) (by simp)
  | x :: xs, [], _, _, h => absurd ((h x).1 (by simp)) (by simp)
  | x :: xs, y :: ys, hx, hy, h => by
    rw [List.pairwise_cons] at hx hy
    have hxy : x = y := by
      rcases List.mem_cons.1 ((h x).1 (by simp)) with e | e
      · exact e
      · rcases List.mem_cons.1 ((h y).2 (by simp)) with e' | e'
        · exact e'.symm
        · exact (hasy _ _ (hy.1 x e) (hx.1 y e')).elim
    subst hxy
    rw [asc_ext lt hir hasy xs ys hx.2 hy.2 fun z => ?_]
    constructor
    · intro hz
      rcases List.mem_cons.1 ((h z).1 (List.mem_cons_of_mem _ hz)) with e | e
      · subst e; exact (hir _ (hx.1 z hz)).elim
      · exact e
    · intro hz
      rcases List.mem_cons.1 ((h z).2 (List.mem_cons_of_mem _ hz)) with e | e
      · subst e; exact (hir _ (hy.1 z hz)).elim
      · exact e
theorem owns_grow {X : World} {base T k n : Nat} {v : Value} {xs : List Value} (h : X.ownsRow base T k v n xs) (os : Array Obj) : (Sort.grow X os).ownsRow base T k v n xs := by
  refine ⟨h.1, ?_⟩
  rcases h.2 with h0 | ⟨g, cap, cur, h1, h2, h3, h4⟩
  · exact .inl h0
  · exact .inr ⟨g, cap, cur, h1, h2, by rw [Sort.heap_grow_old _ _ (Array.getElem?_eq_some_iff.1 h3).1]; exact h3, h4⟩
theorem below_grow {B : Nat} {W X : World} (h : Below B W X) (hB : B ≤ X.heap.size) (os : Array Obj) : Below B W (Sort.grow X os) :=
  ⟨h.os, h.tape, h.output, by have := h.size; simp; omega, fun k hk => by rw [Sort.heap_grow_old _ _ (Nat.lt_of_lt_of_le hk hB)]; exact h.block k hk⟩
/-- The bytes of a text, as the library sorts them. -/
def sortS (ss : List (List UInt8)) : List (List UInt8) := ss.mergeSort fun x y => decide (x ≤ y)
def sortI (zs : List Int) : List Int := zs.mergeSort fun x y => decide (x ≤ y)
def OwnRow {α : Type} (T : Nat) (enc : α → Value) (base : Nat) (v : Value) (zs : List α) (w : World) (e : Ending) (r : Value) (w' : World) : Prop := e = .returned r ∧ w'.ownsRow base T 1 v zs.length (zs.map enc) ∧ Below base w w'
theorem sortStr_calls (base : Nat) (v : Value) (ss : List (List UInt8)) (w : World) (hown : w.ownsRow base 9 1 v ss.length (ss.map encStr)) (hl : ss.length ≤ 8000000) (hb : base ≤ w.heap.size) :
    Calls Tryz.prog 91 #[v] w fun e w' => OwnRow 9 encStr base v (sortS ss) w e (.tuple #[]) w' := by
  have hlen : (sortS ss).length = ss.length := List.length_mergeSort ..
  by_cases hv : v = .slice none 0 0
  · subst hv
    have h0 : ss = [] := by
      rcases hown.2 with ⟨_, h⟩ | ⟨_, _, _, h, _⟩
      · exact List.eq_nil_of_length_eq_zero h
      · cases h
    subst h0
    exact (Tryz.slices_Sort_string_none none 0 w).mono fun e w' ⟨he, hw⟩ => ⟨he, by subst hw; simpa [sortS] using hown, hw ▸ Below.refl _ _⟩
  · obtain ⟨g, cap, rfl, hbg, hgl, _, _, _, hH⟩ := Lib.holds_of_ownsRow hown hv
    refine (Tryz.slices_Sort_string g 0 cap ss w hH hgl (by omega)).mono fun e w' ⟨he, n, os, hw⟩ => ?_
    subst hw
    have h1 := Lib.ownsRow_putRow (q := n) (ys := sortS ss) hown hlen (Nat.le_refl _)
    rw [List.take_of_length_le (by omega)] at h1
    exact ⟨he, by rw [hlen]; exact owns_grow h1 os, below_grow (Lib.below_putRow (Below.refl _ _) hbg) (by simpa using hb) os⟩
theorem sortInt_calls (base : Nat) (v : Value) (ss : List Int) (w : World) (hown : w.ownsRow base 2 1 v ss.length (ss.map (Value.int .i64))) (hl : ss.length ≤ 8000000) (hb : base ≤ w.heap.size) :
    Calls Tryz.prog 94 #[v] w fun e w' => OwnRow 2 (Value.int .i64) base v (sortI ss) w e (.tuple #[]) w' := by
  have hlen : (sortI ss).length = ss.length := List.length_mergeSort ..
  by_cases hv : v = .slice none 0 0
  · subst hv
    have h0 : ss = [] := by
      rcases hown.2 with ⟨_, h⟩ | ⟨_, _, _, h, _⟩
      · exact List.eq_nil_of_length_eq_zero h
      · cases h
    subst h0
    exact (Tryz.slices_Sort_int_none none 0 w).mono fun e w' ⟨he, hw⟩ => ⟨he, by subst hw; simpa [sortI] using hown, hw ▸ Below.refl _ _⟩
  · obtain ⟨g, cap, rfl, hbg, hgl, _, _, _, hH⟩ := Lib.holds_of_ownsRow hown hv
    refine (Tryz.slices_Sort_int g 0 cap ss w hH hgl (by omega)).mono fun e w' ⟨he, n, os, hw⟩ => ?_
    subst hw
    have h1 := Lib.ownsRow_putRow (q := n) (ys := sortI ss) hown hlen (Nat.le_refl _)
    rw [List.take_of_length_le (by omega)] at h1
    exact ⟨he, by rw [hlen]; exact owns_grow h1 os, below_grow (Lib.below_putRow (Below.refl _ _) hbg) (by simpa using hb) os⟩
def OwnCut {α : Type} (T : Nat) (enc : α → Value) (base : Nat) (zs : List α) (w : World) (e : Ending) (w' : World) : Prop := ∃ v, e = .returned v ∧ w'.ownsRow base T 1 v zs.length (zs.map enc) ∧ Below base w w'
theorem compactStr_calls (base : Nat) (v : Value) (ss : List (List UInt8)) (w : World) (hown : w.ownsRow base 9 1 v ss.length (ss.map encStr)) (hl : ss.length ≤ 8000000) :
    Calls Tryz.prog 92 #[v] w (OwnCut 9 encStr base (Lib.compact ss) w) := by
  by_cases hv : v = .slice none 0 0
  · subst hv
    have h0 : ss = [] := by
      rcases hown.2 with ⟨_, h⟩ | ⟨_, _, _, h, _⟩
      · exact List.eq_nil_of_length_eq_zero h
      · cases h
    subst h0
    exact (Tryz.slices_Compact_string_empty none 0 w).mono fun e w' ⟨he, hw⟩ => ⟨_, he, by subst hw; simpa [Lib.compact, Lib.compactUpTo] using hown, hw ▸ Below.refl _ _⟩
  · obtain ⟨g, cap, rfl, hbg, hgl, hnc, _, _, hH⟩ := Lib.holds_of_ownsRow hown hv
    have hle := Lib.compact_length_le ss
    refine (Tryz.slices_Compact_string g 0 cap ss w hH (by omega) hnc).mono fun e w' ⟨he, q, hw⟩ => ?_
    subst hw
    have h1 := Lib.ownsRow_putRow (q := q) (k := (Lib.compact ss).length) (ys := Lib.compact ss ++ List.replicate (ss.length - (Lib.compact ss).length) []) hown (by simp; omega) hle
    rw [List.take_append_of_le_length (Nat.le_refl _), List.take_length] at h1
    exact ⟨_, he, h1, Lib.below_putRow (Below.refl _ _) hbg⟩
theorem compactInt_calls (base : Nat) (v : Value) (ss : List Int) (w : World) (hown : w.ownsRow base 2 1 v ss.length (ss.map (Value.int .i64))) (hl : ss.length ≤ 8000000) :
    Calls Tryz.prog 95 #[v] w (OwnCut 2 (Value.int .i64) base (Lib.compact ss) w) := by
  by_cases hv : v = .slice none 0 0
  · subst hv
    have h0 : ss = [] := by
      rcases hown.2 with ⟨_, h⟩ | ⟨_, _, _, h, _⟩
      · exact List.eq_nil_of_length_eq_zero h
      · cases h
    subst h0
    exact (Tryz.slices_Compact_int_empty none 0 w).mono fun e w' ⟨he, hw⟩ => ⟨_, he, by subst hw; simpa [Lib.compact, Lib.compactUpTo] using hown, hw ▸ Below.refl _ _⟩
  · obtain ⟨g, cap, rfl, hbg, hgl, hnc, _, _, hH⟩ := Lib.holds_of_ownsRow hown hv
    have hle := Lib.compact_length_le ss
    refine (Tryz.slices_Compact_int g 0 cap ss w hH (by omega) hnc).mono fun e w' ⟨he, q, hw⟩ => ?_
    subst hw
    have h1 := Lib.ownsRow_putRow (q := q) (k := (Lib.compact ss).length) (ys := Lib.compact ss ++ List.replicate (ss.length - (Lib.compact ss).length) 0) hown (by simp; omega) hle
    rw [List.take_append_of_le_length (Nat.le_refl _), List.take_length] at h1
    exact ⟨_, he, h1, Lib.below_putRow (Below.refl _ _) hbg⟩
end Go.Proofs.YtnlnmbcaongehaaGreatDoor
namespace Go.Proofs.YtnlnmbcaongehaaGreatDoor
open Go.RowKit
theorem Tryz.info9 : (Tryz.prog.info? 9).map (fun i => (i.zero, i.size, i.bytes)) = some (some (.string ⟨#[]⟩), 1, 16) := by kernel_rfl
theorem Tryz.info2 : (Tryz.prog.info? 2).map (fun i => (i.zero, i.size, i.bytes)) = some (some (.int .i64 0), 1, 8) := by kernel_rfl
theorem encStr_data (s : ByteArray) : encStr s.data.toList = .string s := by simp [encStr]
/-- The keys of the first k elements, in a row of the call's own. -/
def KeyRel {α β : Type} (K : Nat) (enc : β → Value) (key : α → β) (zs : List α) (W : World) (k : Nat) (v : Value) (wr : World) : Prop :=
  wr.ownsRow W.heap.size K 1 v k (((zs.take k).map key).map enc) ∧ Below W.heap.size W wr
theorem KeyRel.step {α β : Type} {K : Nat} {enc : β → Value} {key : α → β} {zs : List α} {W w1 w2 : World} {k : Nat} {v v' : Value} {x : α} {cs : Array Value} (hx : zs[k]? = some x) (hb : Below W.heap.size W w1) (ho : w1.ownsRow W.heap.size K 1 v k (((zs.take k).map key).map enc)) (hcs : cs.toList = [enc (key x)])
    (hown : w2.ownsRow W.heap.size K 1 v' (k + 1) (((zs.take k).map key).map enc ++ cs.toList)) (hg : (w1.alloc (.cells cs K)).grownBy w2 v.ownBlock) : KeyRel K enc key zs W (k + 1) v' w2 := by
  refine ⟨?_, (hb.alloc hb.size _).grown hg (by have := hb.size; simp; omega) (fun j hj => (ho.lt j hj).1)⟩
  rw [List.take_add_one, hx]
  simp only [Option.toList_some, List.map_append, List.map_cons, List.map_nil]
  rw [hcs] at hown
  exact hown
theorem KeyRel.all {α β : Type} {K : Nat} {enc : β → Value} {key : α → β} {zs : List α} {W wr : World} {v : Value} (h : KeyRel K enc key zs W zs.length v wr) : wr.ownsRow W.heap.size K 1 v (zs.map key).length ((zs.map key).map enc) := by
  have := h.1
  rw [List.take_length] at this
  simpa using this
theorem key35_calls (x : Reg) (w : World) : Calls Tryz.prog 35 #[.agg x.enc.toArray] w fun e w' => e = .returned (.string x.name) ∧ Below w.heap.size w w' := by
  obtain ⟨nm, top, height, left, width, align, bottom⟩ := x
  simp only [Reg.enc]
  go_enter Tryz.func35, Tryz.ntmps35
  go_wp2_with fail
  go_ret
  exact ⟨rfl, (Below.refl _ _).alloc (Nat.le_refl _) _⟩
set_option maxRecDepth 100000 in
set_option maxHeartbeats 3200000 in
theorem keys34_calls {Ok : World → Reg → Prop} (hK : Keeps Ok) (a1 a2 : Option Addr) (c1 c2 : Nat) (xs ys : List Reg) (w : World) (h1 : SliceOf 7 Reg.enc Ok w a1 xs) (h2 : SliceOf 7 Reg.enc Ok w a2 ys) (hx : xs.length ≤ 4000000) (hy : ys.length ≤ 4000000) :
    Calls Tryz.prog 34 #[.slice a1 xs.length c1, .slice a2 ys.length c2, .func (.func 35) #[] #[]] w (OwnCut 9 encStr w.heap.size (Lib.compact (sortS ((xs ++ ys).map (fun x : Reg => x.name.data.toList)))) w) := by
  obtain ⟨zs, hzs⟩ : ∃ zs, zs = xs ++ ys := ⟨_, rfl⟩
  have hzl : zs.length ≤ 8000000 := by rw [hzs, List.length_append]; omega
  have HC := Lib.hid (fun (o : Array Value) (ho : o = #[.slice a1 xs.length c1, .slice a2 ys.length c2]) => (show Calls Tryz.prog 90 #[.slice (some ⟨w.heap.size, 0, none⟩) 2 2] (w.alloc (.cells o 23)) (CopyPost 44 7 Reg.enc zs (w.alloc (.cells o 23))) from by
    rw [hzs]
    have hb : Below w.heap.size w (w.alloc (.cells o 23)) := (Below.refl _ _).alloc (Nat.le_refl _) _
    refine concat90_calls hK w.heap.size c1 c2 a1 a2 xs ys (w.alloc (.cells o 23)) ?_ ?_ (by simp) (SliceOf.keeps hK _ _ _ _ hb h1) (SliceOf.keeps hK _ _ _ _ hb h2) hx hy
    · rw [cell_of_row _ _ 0 o 23 (0, 0) (heap_alloc_last w _), ho]; rfl
    · rw [cell_of_row _ _ 1 o 23 (0, 0) (heap_alloc_last w _), ho]; rfl))
  rw [← hzs]
  have hsl : (sortS (zs.map (fun x : Reg => x.name.data.toList))).length ≤ 8000000 := by unfold sortS; rw [List.length_mergeSort, List.length_map]; exact hzl
  have HFIN := Lib.hid (fun (W wr : World) (v : Value) (h : KeyRel 9 encStr (fun x : Reg => x.name.data.toList) zs W zs.length v wr) => sortStr_calls W.heap.size v (zs.map (fun x : Reg => x.name.data.toList)) wr h.all (by rw [List.length_map]; exact hzl) h.2.size)
  have HCMP := Lib.hid (fun (B : Nat) (wr : World) (v : Value) (ho : wr.ownsRow B 9 1 v (sortS (zs.map (fun x : Reg => x.name.data.toList))).length ((sortS (zs.map (fun x : Reg => x.name.data.toList))).map encStr)) => compactStr_calls B v (sortS (zs.map (fun x : Reg => x.name.data.toList))) wr ho hsl)
  have HQ := Lib.hid (fun (B : Nat) (w1 w2 w3 w4 : World) (v : Value) (hB : w.heap.size ≤ B) (h1 : Below w.heap.size w w1) (h2 : Below B w1 w2) (h3 : Below B w2 w3) (h4 : Below B w3 w4) (ho : w4.ownsRow B 9 1 v (Lib.compact (sortS (zs.map (fun x : Reg => x.name.data.toList)))).length ((Lib.compact (sortS (zs.map (fun x : Reg => x.name.data.toList)))).map encStr)) => (show OwnCut 9 encStr w.heap.size (Lib.compact (sortS (zs.map (fun x : Reg => x.name.data.toList)))) w (.returned v) w4 from
    ⟨v, rfl, ⟨ho.1, ho.2.imp id (fun ⟨g, cap, cur, q1, q2, q3⟩ => ⟨g, cap, cur, q1, Nat.le_trans hB q2, q3⟩)⟩, ((h1.trans (h2.mono hB)).trans (h3.mono hB)).trans (h4.mono hB)⟩))
  obtain ⟨j0, hj, hy0, hy1, hy2⟩ := info_parts Tryz.info9
  have JI := Lib.hid hj; have J0 := Lib.hid hy0; have J1 := Lib.hid hy1; have J2 := Lib.hid hy2
  have HST := Lib.hid (fun (W w1 w2 : World) (k : Nat) (v v' : Value) (x : Reg) (cs : Array Value) (hx : zs[k]? = some x) => KeyRel.step (K := 9) (enc := encStr) (key := (fun x : Reg => x.name.data.toList)) (zs := zs) (W := W) (w1 := w1) (w2 := w2) (k := k) (v := v) (v' := v') (x := x) (cs := cs) hx)
  have HREL : Hid (∀ (W wr : World) (k : Nat) (v : Value), KeyRel 9 encStr (fun x : Reg => x.name.data.toList) zs W k v wr → wr.ownsRow W.heap.size 9 1 v k (((zs.take k).map (fun x : Reg => x.name.data.toList)).map encStr) ∧ Below W.heap.size W wr) := Lib.hid (fun _ _ _ _ h => h)
  have HS0 : Hid (∀ W : World, KeyRel 9 encStr (fun x : Reg => x.name.data.toList) zs W 0 (.slice none 0 0) W) := Lib.hid (fun W => ⟨World.ownsRow_nil _ _ _ _, Below.refl _ _⟩)
  generalize KeyRel 9 encStr (fun x : Reg => x.name.data.toList) zs = R at *
  obtain ⟨cells, hcells⟩ : ∃ cells : Nat → List Value, cells = fun k => (((zs.take k).map (fun x : Reg => x.name.data.toList)).map encStr) := ⟨_, rfl⟩
  simp only [show ∀ k, (((zs.take k).map (fun x : Reg => x.name.data.toList)).map encStr) = cells k from fun k => by rw [hcells]] at HREL HST
  generalize sortS (zs.map (fun x : Reg => x.name.data.toList)) = S at *
  generalize Lib.compact S = C at *
  generalize OwnCut 9 encStr w.heap.size C w = Q at *
  clear hj hy0 hy1 hy2 h1 h2 hzs hsl hcells
  go_enter Tryz.func34, Tryz.ntmps34
  go_wp2_with fail
  refine (HC.out _ rfl).mono ?_
  rintro e w1 ⟨v1, rfl, ho1, hb1⟩
  obtain ⟨av, cv, rfl, hS⟩ := sliceOf_owns (k := 7) (enc := Reg.enc) (Ok := Flat) (fun _ => rfl) ho1 (fun _ _ => trivial)
  have HB1 := Lib.hid (show Below w.heap.size w w1 from ((Below.refl _ _).alloc (Nat.le_refl _) _).trans (hb1.mono (by simp)))
  have HSL := Lib.hid hS
  have hs1 := HB1.out.size
  clear ho1 hb1 hS HC
  go_wp2_with fail
  go_loopw [7, 15] (fun v i wr => ∃ k : Nat, k ≤ zs.length ∧ i = .int .i64 k ∧ R w1 k v wr) (fun _ i _ => zs.length - (intOf i).toNat)
  case atStart => exact ⟨0, by omega, rfl, HS0.out _⟩
  case round =>
    obtain ⟨k, hk, rfl, hrel⟩ := hrel
    have hrk := HREL.out _ _ _ _ hrel
    by_cases hlt : k < zs.length
    · obtain ⟨b, off, x, rfl, hbl, hxk, hc, _⟩ := (SliceOf.keeps Flat.keeps _ _ _ _ hrk.2 HSL.out).at_ hlt
      have hbs := hrk.2.size
      have HKC := Lib.hid (fun o => key35_calls x (wr.alloc o))
      have HBA := Lib.hid (fun (o : Obj) (w2 : World) (h1 : Below (wr.alloc o).heap.size (wr.alloc o) w2) => (show Below wr.heap.size wr w2 from ((Below.refl _ _).alloc (Nat.le_refl _) _).trans (h1.mono (by simp))))
      have HO := Lib.hid (fun (w2 : World) (hb : Below wr.heap.size wr w2) => owns_below hrk.1 hb)
      have HBB := Lib.hid (fun (w2 : World) (hb : Below wr.heap.size wr w2) => (show Below w1.heap.size w1 w2 from hrk.2.trans (hb.mono hrk.2.size)))
      have HS2 := Lib.hid (fun (w2 w3 : World) (v' : Value) (cs : Array Value) => HST.out w1 w2 w3 k u7 v' x cs hxk)
      have d0 := hc 0 _ rfl; have d1 := hc 1 _ rfl; have d2 := hc 2 _ rfl; have d3 := hc 3 _ rfl; have d4 := hc 4 _ rfl; have d5 := hc 5 _ rfl; have d6 := hc 6 _ rfl
      obtain ⟨nm, top, height, left, width, align, bottom⟩ := x
      simp only [Reg.enc, Nat.add_zero] at HKC d0 d1 d2 d3 d4 d5 d6
      simp only [encStr_data] at HS2
      clear hc hxk hrel hrk
      go_wp2_with fail
      refine (HKC.out _).mono ?_
      rintro e w2 ⟨rfl, hb2⟩
      have hb3 := HBA.out _ _ hb2
      have hs2 := hb3.size
      have HO2 := Lib.hid (HO.out _ hb3)
      have HB3 := Lib.hid (HBB.out _ hb3)
      clear hb2 hb3 HO HKC HBA d0 d1 d2 d3 d4 d5 d6
      go_wp2_with (at_builtin; refine wpList_append_new _ _ rfl (.tmp 19) (.tmp 23) 55 rfl w1.heap.size 9 j0 _ 1 16 Tryz.underlying55 JI.out J0.out J1.out J2.out rfl (by decide) _ _ _ rfl HO2.out _ rfl rfl rfl ?h1 ?h63 ?hb ?hbase ?_)
      case h1 => first | rfl | (intro u hu; simp at hu; subst hu; rfl)
      case h63 => unfold maxLen; omega
      case hb => omega
      case hbase => omega
      intro v' w3 hown' hgrow
      have RR := Lib.hid (HS2.out w2 w3 v' _ HB3.out HO2.out rfl hown' hgrow)
      clear hown' hgrow
      go_wp2_with fail
      go_roundw
      case rel => exact ⟨k + 1, by omega, by go_num, RR.out⟩
      case measure => simp [intOf]; omega
    · obtain rfl : k = zs.length := by omega
      obtain ⟨av2, cv2, hav⟩ : ∃ a c, u7 = .slice a zs.length c := by
        rcases hrk.1.2 with ⟨rfl, h0⟩ | ⟨g, cap, _, rfl, _⟩
        · exact ⟨none, 0, by rw [h0]⟩
        · exact ⟨_, _, rfl⟩
      subst hav
      have HF1 := Lib.hid (HFIN.out _ _ _ hrel)
      have HRB := Lib.hid hrk.2
      clear hrel hrk
      go_wp2_with fail
      refine HF1.out.mono ?_
      rintro e w2 ⟨rfl, ho2, hb2⟩
      have HF2 := Lib.hid (HCMP.out _ _ _ ho2)
      have HB2 := Lib.hid hb2
      clear ho2 hb2
      go_wp2_with fail
      refine HF2.out.mono ?_
      rintro e w3 ⟨v3, rfl, ho3, hb3⟩
      have HF3 := Lib.hid (HQ.out _ w1 _ _ _ v3 hs1 HB1.out HRB.out HB2.out hb3 ho3)
      clear ho3 hb3
      go_wp2_with fail
      exact HF3.out
theorem key38_calls (x : Ev) (w : World) : Calls Tryz.prog 38 #[.agg x.enc.toArray] w fun e w' => e = .returned (.int .i64 x.id) ∧ Below w.heap.size w w' := by
  obtain ⟨id, inn, out, reg, kind, sp, xa, xc, xr⟩ := x
  simp only [Ev.enc]
  go_enter Tryz.func38, Tryz.ntmps38
  go_wp2_with fail
  go_ret
  exact ⟨rfl, (Below.refl _ _).alloc (Nat.le_refl _) _⟩
set_option maxRecDepth 100000 in
set_option maxHeartbeats 3200000 in
theorem keys37_calls {Ok : World → Ev → Prop} (hK : Keeps Ok) (a1 a2 : Option Addr) (c1 c2 : Nat) (xs ys : List Ev) (w : World) (h1 : SliceOf 7 Ev.enc Ok w a1 xs) (h2 : SliceOf 7 Ev.enc Ok w a2 ys) (hx : xs.length ≤ 4000000) (hy : ys.length ≤ 4000000) :
    Calls Tryz.prog 37 #[.slice a1 xs.length c1, .slice a2 ys.length c2, .func (.func 38) #[] #[]] w (OwnCut 2 (Value.int .i64) w.heap.size (Lib.compact (sortI ((xs ++ ys).map (fun x : Ev => x.id)))) w) := by
  obtain ⟨zs, hzs⟩ : ∃ zs, zs = xs ++ ys := ⟨_, rfl⟩
  have hzl : zs.length ≤ 8000000 := by rw [hzs, List.length_append]; omega
  have HC := Lib.hid (fun (o : Array Value) (ho : o = #[.slice a1 xs.length c1, .slice a2 ys.length c2]) => (show Calls Tryz.prog 93 #[.slice (some ⟨w.heap.size, 0, none⟩) 2 2] (w.alloc (.cells o 24)) (CopyPost 50 7 Ev.enc zs (w.alloc (.cells o 24))) from by
    rw [hzs]
    have hb : Below w.heap.size w (w.alloc (.cells o 24)) := (Below.refl _ _).alloc (Nat.le_refl _) _
    refine concat93_calls hK w.heap.size c1 c2 a1 a2 xs ys (w.alloc (.cells o 24)) ?_ ?_ (by simp) (SliceOf.keeps hK _ _ _ _ hb h1) (SliceOf.keeps hK _ _ _ _ hb h2) hx hy
    · rw [cell_of_row _ _ 0 o 24 (0, 0) (heap_alloc_last w _), ho]; rfl
    · rw [cell_of_row _ _ 1 o 24 (0, 0) (heap_alloc_last w _), ho]; rfl))
  rw [← hzs]
  have hsl : (sortI (zs.map (fun x : Ev => x.id))).length ≤ 8000000 := by unfold sortI; rw [List.length_mergeSort, List.length_map]; exact hzl
  have HFIN := Lib.hid (fun (W wr : World) (v : Value) (h : KeyRel 2 (Value.int .i64) (fun x : Ev => x.id) zs W zs.length v wr) => sortInt_calls W.heap.size v (zs.map (fun x : Ev => x.id)) wr h.all (by rw [List.length_map]; exact hzl) h.2.size)
  have HCMP := Lib.hid (fun (B : Nat) (wr : World) (v : Value) (ho : wr.ownsRow B 2 1 v (sortI (zs.map (fun x : Ev => x.id))).length ((sortI (zs.map (fun x : Ev => x.id))).map (Value.int .i64))) => compactInt_calls B v (sortI (zs.map (fun x : Ev => x.id))) wr ho hsl)
  have HQ := Lib.hid (fun (B : Nat) (w1 w2 w3 w4 : World) (v : Value) (hB : w.heap.size ≤ B) (h1 : Below w.heap.size w w1) (h2 : Below B w1 w2) (h3 : Below B w2 w3) (h4 : Below B w3 w4) (ho : w4.ownsRow B 2 1 v (Lib.compact (sortI (zs.map (fun x : Ev => x.id)))).length ((Lib.compact (sortI (zs.map (fun x : Ev => x.id)))).map (Value.int .i64))) => (show OwnCut 2 (Value.int .i64) w.heap.size (Lib.compact (sortI (zs.map (fun x : Ev => x.id)))) w (.returned v) w4 from
    ⟨v, rfl, ⟨ho.1, ho.2.imp id (fun ⟨g, cap, cur, q1, q2, q3⟩ => ⟨g, cap, cur, q1, Nat.le_trans hB q2, q3⟩)⟩, ((h1.trans (h2.mono hB)).trans (h3.mono hB)).trans (h4.mono hB)⟩))
  obtain ⟨j0, hj, hy0, hy1, hy2⟩ := info_parts Tryz.info2
  have JI := Lib.hid hj; have J0 := Lib.hid hy0; have J1 := Lib.hid hy1; have J2 := Lib.hid hy2
  have HST := Lib.hid (fun (W w1 w2 : World) (k : Nat) (v v' : Value) (x : Ev) (cs : Array Value) (hx : zs[k]? = some x) => KeyRel.step (K := 2) (enc := (Value.int .i64)) (key := (fun x : Ev => x.id)) (zs := zs) (W := W) (w1 := w1) (w2 := w2) (k := k) (v := v) (v' := v') (x := x) (cs := cs) hx)
  have HREL : Hid (∀ (W wr : World) (k : Nat) (v : Value), KeyRel 2 (Value.int .i64) (fun x : Ev => x.id) zs W k v wr → wr.ownsRow W.heap.size 2 1 v k (((zs.take k).map (fun x : Ev => x.id)).map (Value.int .i64)) ∧ Below W.heap.size W wr) := Lib.hid (fun _ _ _ _ h => h)
  have HS0 : Hid (∀ W : World, KeyRel 2 (Value.int .i64) (fun x : Ev => x.id) zs W 0 (.slice none 0 0) W) := Lib.hid (fun W => ⟨World.ownsRow_nil _ _ _ _, Below.refl _ _⟩)
  generalize KeyRel 2 (Value.int .i64) (fun x : Ev => x.id) zs = R at *
  obtain ⟨cells, hcells⟩ : ∃ cells : Nat → List Value, cells = fun k => (((zs.take k).map (fun x : Ev => x.id)).map (Value.int .i64)) := ⟨_, rfl⟩
  simp only [show ∀ k, (((zs.take k).map (fun x : Ev => x.id)).map (Value.int .i64)) = cells k from fun k => by rw [hcells]] at HREL HST
  generalize sortI (zs.map (fun x : Ev => x.id)) = S at *
  generalize Lib.compact S = C at *
  generalize OwnCut 2 (Value.int .i64) w.heap.size C w = Q at *
  clear hj hy0 hy1 hy2 h1 h2 hzs hsl hcells
  go_enter Tryz.func37, Tryz.ntmps37
  go_wp2_with fail
  refine (HC.out _ rfl).mono ?_
  rintro e w1 ⟨v1, rfl, ho1, hb1⟩
  obtain ⟨av, cv, rfl, hS⟩ := sliceOf_owns (k := 7) (enc := Ev.enc) (Ok := Flat) (fun _ => rfl) ho1 (fun _ _ => trivial)
  have HB1 := Lib.hid (show Below w.heap.size w w1 from ((Below.refl _ _).alloc (Nat.le_refl _) _).trans (hb1.mono (by simp)))
  have HSL := Lib.hid hS
  have hs1 := HB1.out.size
  clear ho1 hb1 hS HC
  go_wp2_with fail
  go_loopw [7, 15] (fun v i wr => ∃ k : Nat, k ≤ zs.length ∧ i = .int .i64 k ∧ R w1 k v wr) (fun _ i _ => zs.length - (intOf i).toNat)
  case atStart => exact ⟨0, by omega, rfl, HS0.out _⟩
  case round =>
    obtain ⟨k, hk, rfl, hrel⟩ := hrel
    have hrk := HREL.out _ _ _ _ hrel
    by_cases hlt : k < zs.length
    · obtain ⟨b, off, x, rfl, hbl, hxk, hc, _⟩ := (SliceOf.keeps Flat.keeps _ _ _ _ hrk.2 HSL.out).at_ hlt
      have hbs := hrk.2.size
      have HKC := Lib.hid (fun o => key38_calls x (wr.alloc o))
      have HBA := Lib.hid (fun (o : Obj) (w2 : World) (h1 : Below (wr.alloc o).heap.size (wr.alloc o) w2) => (show Below wr.heap.size wr w2 from ((Below.refl _ _).alloc (Nat.le_refl _) _).trans (h1.mono (by simp))))
      have HO := Lib.hid (fun (w2 : World) (hb : Below wr.heap.size wr w2) => owns_below hrk.1 hb)
      have HBB := Lib.hid (fun (w2 : World) (hb : Below wr.heap.size wr w2) => (show Below w1.heap.size w1 w2 from hrk.2.trans (hb.mono hrk.2.size)))
      have HS2 := Lib.hid (fun (w2 w3 : World) (v' : Value) (cs : Array Value) => HST.out w1 w2 w3 k u7 v' x cs hxk)
      have d0 := hc 0 _ rfl; have d1 := hc 1 _ rfl; have d2 := hc 2 _ rfl; have d3 := hc 3 _ rfl; have d4 := hc 4 _ rfl; have d5 := hc 5 _ rfl; have d6 := hc 6 _ rfl
      obtain ⟨id, inn, out, reg, kind, sp, xa, xc, xr⟩ := x
      simp only [Ev.enc, Nat.add_zero] at HKC d0 d1 d2 d3 d4 d5 d6
      simp only at HS2
      clear hc hxk hrel hrk
      go_wp2_with fail
      refine (HKC.out _).mono ?_
      rintro e w2 ⟨rfl, hb2⟩
      have hb3 := HBA.out _ _ hb2
      have hs2 := hb3.size
      have HO2 := Lib.hid (HO.out _ hb3)
      have HB3 := Lib.hid (HBB.out _ hb3)
      clear hb2 hb3 HO HKC HBA d0 d1 d2 d3 d4 d5 d6
      go_wp2_with (at_builtin; refine wpList_append_new _ _ rfl (.tmp 19) (.tmp 23) 85 rfl w1.heap.size 2 j0 _ 1 8 Tryz.underlying85 JI.out J0.out J1.out J2.out rfl (by decide) _ _ _ rfl HO2.out _ rfl rfl rfl ?h1 ?h63 ?hb ?hbase ?_)
      case h1 => first | rfl | (intro u hu; simp at hu; subst hu; rfl)
      case h63 => unfold maxLen; omega
      case hb => omega
      case hbase => omega
      intro v' w3 hown' hgrow
      have RR := Lib.hid (HS2.out w2 w3 v' _ HB3.out HO2.out rfl hown' hgrow)
      clear hown' hgrow
      go_wp2_with fail
      go_roundw
      case rel => exact ⟨k + 1, by omega, by go_num, RR.out⟩
      case measure => simp [intOf]; omega
    · obtain rfl : k = zs.length := by omega
      obtain ⟨av2, cv2, hav⟩ : ∃ a c, u7 = .slice a zs.length c := by
        rcases hrk.1.2 with ⟨rfl, h0⟩ | ⟨g, cap, _, rfl, _⟩
        · exact ⟨none, 0, by rw [h0]⟩
        · exact ⟨_, _, rfl⟩
      subst hav
      have HF1 := Lib.hid (HFIN.out _ _ _ hrel)
      have HRB := Lib.hid hrk.2
      clear hrel hrk
      go_wp2_with fail
      refine HF1.out.mono ?_
      rintro e w2 ⟨rfl, ho2, hb2⟩
      have HF2 := Lib.hid (HCMP.out _ _ _ ho2)
      have HB2 := Lib.hid hb2
      clear ho2 hb2
      go_wp2_with fail
      refine HF2.out.mono ?_
      rintro e w3 ⟨v3, rfl, ho3, hb3⟩
      have HF3 := Lib.hid (HQ.out _ w1 _ _ _ v3 hs1 HB1.out HRB.out HB2.out hb3 ho3)
      clear ho3 hb3
      go_wp2_with fail
      exact HF3.out
theorem key42_calls (x : Cm) (w : World) : Calls Tryz.prog 42 #[.agg x.enc.toArray] w fun e w' => e = .returned (.int .i64 x.id) ∧ Below w.heap.size w w' := by
  obtain ⟨id, ev, frm, til, au, tx, dn, lo⟩ := x
  simp only [Cm.enc]
  go_enter Tryz.func42, Tryz.ntmps42
  go_wp2_with fail
  go_ret
  exact ⟨rfl, (Below.refl _ _).alloc (Nat.le_refl _) _⟩
set_option maxRecDepth 100000 in
set_option maxHeartbeats 3200000 in
theorem keys41_calls {Ok : World → Cm → Prop} (hK : Keeps Ok) (a1 a2 : Option Addr) (c1 c2 : Nat) (xs ys : List Cm) (w : World) (h1 : SliceOf 8 Cm.enc Ok w a1 xs) (h2 : SliceOf 8 Cm.enc Ok w a2 ys) (hx : xs.length ≤ 4000000) (hy : ys.length ≤ 4000000) :
    Calls Tryz.prog 41 #[.slice a1 xs.length c1, .slice a2 ys.length c2, .func (.func 42) #[] #[]] w (OwnCut 2 (Value.int .i64) w.heap.size (Lib.compact (sortI ((xs ++ ys).map (fun x : Cm => x.id)))) w) := by
  obtain ⟨zs, hzs⟩ : ∃ zs, zs = xs ++ ys := ⟨_, rfl⟩
  have hzl : zs.length ≤ 8000000 := by rw [hzs, List.length_append]; omega
  have HC := Lib.hid (fun (o : Array Value) (ho : o = #[.slice a1 xs.length c1, .slice a2 ys.length c2]) => (show Calls Tryz.prog 97 #[.slice (some ⟨w.heap.size, 0, none⟩) 2 2] (w.alloc (.cells o 25)) (CopyPost 52 8 Cm.enc zs (w.alloc (.cells o 25))) from by
    rw [hzs]
    have hb : Below w.heap.size w (w.alloc (.cells o 25)) := (Below.refl _ _).alloc (Nat.le_refl _) _
    refine concat97_calls hK w.heap.size c1 c2 a1 a2 xs ys (w.alloc (.cells o 25)) ?_ ?_ (by simp) (SliceOf.keeps hK _ _ _ _ hb h1) (SliceOf.keeps hK _ _ _ _ hb h2) hx hy
    · rw [cell_of_row _ _ 0 o 25 (0, 0) (heap_alloc_last w _), ho]; rfl
    · rw [cell_of_row _ _ 1 o 25 (0, 0) (heap_alloc_last w _), ho]; rfl))
  rw [← hzs]
  have hsl : (sortI (zs.map (fun x : Cm => x.id))).length ≤ 8000000 := by unfold sortI; rw [List.length_mergeSort, List.length_map]; exact hzl
  have HFIN := Lib.hid (fun (W wr : World) (v : Value) (h : KeyRel 2 (Value.int .i64) (fun x : Cm => x.id) zs W zs.length v wr) => sortInt_calls W.heap.size v (zs.map (fun x : Cm => x.id)) wr h.all (by rw [List.length_map]; exact hzl) h.2.size)
  have HCMP := Lib.hid (fun (B : Nat) (wr : World) (v : Value) (ho : wr.ownsRow B 2 1 v (sortI (zs.map (fun x : Cm => x.id))).length ((sortI (zs.map (fun x : Cm => x.id))).map (Value.int .i64))) => compactInt_calls B v (sortI (zs.map (fun x : Cm => x.id))) wr ho hsl)
  have HQ := Lib.hid (fun (B : Nat) (w1 w2 w3 w4 : World) (v : Value) (hB : w.heap.size ≤ B) (h1 : Below w.heap.size w w1) (h2 : Below B w1 w2) (h3 : Below B w2 w3) (h4 : Below B w3 w4) (ho : w4.ownsRow B 2 1 v (Lib.compact (sortI (zs.map (fun x : Cm => x.id)))).length ((Lib.compact (sortI (zs.map (fun x : Cm => x.id)))).map (Value.int .i64))) => (show OwnCut 2 (Value.int .i64) w.heap.size (Lib.compact (sortI (zs.map (fun x : Cm => x.id)))) w (.returned v) w4 from
    ⟨v, rfl, ⟨ho.1, ho.2.imp id (fun ⟨g, cap, cur, q1, q2, q3⟩ => ⟨g, cap, cur, q1, Nat.le_trans hB q2, q3⟩)⟩, ((h1.trans (h2.mono hB)).trans (h3.mono hB)).trans (h4.mono hB)⟩))
  obtain ⟨j0, hj, hy0, hy1, hy2⟩ := info_parts Tryz.info2
  have JI := Lib.hid hj; have J0 := Lib.hid hy0; have J1 := Lib.hid hy1; have J2 := Lib.hid hy2
  have HST := Lib.hid (fun (W w1 w2 : World) (k : Nat) (v v' : Value) (x : Cm) (cs : Array Value) (hx : zs[k]? = some x) => KeyRel.step (K := 2) (enc := (Value.int .i64)) (key := (fun x : Cm => x.id)) (zs := zs) (W := W) (w1 := w1) (w2 := w2) (k := k) (v := v) (v' := v') (x := x) (cs := cs) hx)
  have HREL : Hid (∀ (W wr : World) (k : Nat) (v : Value), KeyRel 2 (Value.int .i64) (fun x : Cm => x.id) zs W k v wr → wr.ownsRow W.heap.size 2 1 v k (((zs.take k).map (fun x : Cm => x.id)).map (Value.int .i64)) ∧ Below W.heap.size W wr) := Lib.hid (fun _ _ _ _ h => h)
  have HS0 : Hid (∀ W : World, KeyRel 2 (Value.int .i64) (fun x : Cm => x.id) zs W 0 (.slice none 0 0) W) := Lib.hid (fun W => ⟨World.ownsRow_nil _ _ _ _, Below.refl _ _⟩)
  generalize KeyRel 2 (Value.int .i64) (fun x : Cm => x.id) zs = R at *
  obtain ⟨cells, hcells⟩ : ∃ cells : Nat → List Value, cells = fun k => (((zs.take k).map (fun x : Cm => x.id)).map (Value.int .i64)) := ⟨_, rfl⟩
  simp only [show ∀ k, (((zs.take k).map (fun x : Cm => x.id)).map (Value.int .i64)) = cells k from fun k => by rw [hcells]] at HREL HST
  generalize sortI (zs.map (fun x : Cm => x.id)) = S at *
  generalize Lib.compact S = C at *
  generalize OwnCut 2 (Value.int .i64) w.heap.size C w = Q at *
  clear hj hy0 hy1 hy2 h1 h2 hzs hsl hcells
  go_enter Tryz.func41, Tryz.ntmps41
  go_wp2_with fail
  refine (HC.out _ rfl).mono ?_
  rintro e w1 ⟨v1, rfl, ho1, hb1⟩
  obtain ⟨av, cv, rfl, hS⟩ := sliceOf_owns (k := 8) (enc := Cm.enc) (Ok := Flat) (fun _ => rfl) ho1 (fun _ _ => trivial)
  have HB1 := Lib.hid (show Below w.heap.size w w1 from ((Below.refl _ _).alloc (Nat.le_refl _) _).trans (hb1.mono (by simp)))
  have HSL := Lib.hid hS
  have hs1 := HB1.out.size
  clear ho1 hb1 hS HC
  go_wp2_with fail
  go_loopw [7, 15] (fun v i wr => ∃ k : Nat, k ≤ zs.length ∧ i = .int .i64 k ∧ R w1 k v wr) (fun _ i _ => zs.length - (intOf i).toNat)
  case atStart => exact ⟨0, by omega, rfl, HS0.out _⟩
  case round =>
    obtain ⟨k, hk, rfl, hrel⟩ := hrel
    have hrk := HREL.out _ _ _ _ hrel
    by_cases hlt : k < zs.length
    · obtain ⟨b, off, x, rfl, hbl, hxk, hc, _⟩ := (SliceOf.keeps Flat.keeps _ _ _ _ hrk.2 HSL.out).at_ hlt
      have hbs := hrk.2.size
      have HKC := Lib.hid (fun o => key42_calls x (wr.alloc o))
      have HBA := Lib.hid (fun (o : Obj) (w2 : World) (h1 : Below (wr.alloc o).heap.size (wr.alloc o) w2) => (show Below wr.heap.size wr w2 from ((Below.refl _ _).alloc (Nat.le_refl _) _).trans (h1.mono (by simp))))
      have HO := Lib.hid (fun (w2 : World) (hb : Below wr.heap.size wr w2) => owns_below hrk.1 hb)
      have HBB := Lib.hid (fun (w2 : World) (hb : Below wr.heap.size wr w2) => (show Below w1.heap.size w1 w2 from hrk.2.trans (hb.mono hrk.2.size)))
      have HS2 := Lib.hid (fun (w2 w3 : World) (v' : Value) (cs : Array Value) => HST.out w1 w2 w3 k u7 v' x cs hxk)
      have d0 := hc 0 _ rfl; have d1 := hc 1 _ rfl; have d2 := hc 2 _ rfl; have d3 := hc 3 _ rfl; have d4 := hc 4 _ rfl; have d5 := hc 5 _ rfl; have d6 := hc 6 _ rfl; have d7 := hc 7 _ rfl
      obtain ⟨id, ev, frm, til, au, tx, dn, lo⟩ := x
      simp only [Cm.enc, Nat.add_zero] at HKC d0 d1 d2 d3 d4 d5 d6 d7
      simp only at HS2
      clear hc hxk hrel hrk
      go_wp2_with fail
      refine (HKC.out _).mono ?_
      rintro e w2 ⟨rfl, hb2⟩
      have hb3 := HBA.out _ _ hb2
      have hs2 := hb3.size
      have HO2 := Lib.hid (HO.out _ hb3)
      have HB3 := Lib.hid (HBB.out _ hb3)
      clear hb2 hb3 HO HKC HBA d0 d1 d2 d3 d4 d5 d6 d7
      go_wp2_with (at_builtin; refine wpList_append_new _ _ rfl (.tmp 19) (.tmp 23) 85 rfl w1.heap.size 2 j0 _ 1 8 Tryz.underlying85 JI.out J0.out J1.out J2.out rfl (by decide) _ _ _ rfl HO2.out _ rfl rfl rfl ?h1 ?h63 ?hb ?hbase ?_)
      case h1 => first | rfl | (intro u hu; simp at hu; subst hu; rfl)
      case h63 => unfold maxLen; omega
      case hb => omega
      case hbase => omega
      intro v' w3 hown' hgrow
      have RR := Lib.hid (HS2.out w2 w3 v' _ HB3.out HO2.out rfl hown' hgrow)
      clear hown' hgrow
      go_wp2_with fail
      go_roundw
      case rel => exact ⟨k + 1, by omega, by go_num, RR.out⟩
      case measure => simp [intOf]; omega
    · obtain rfl : k = zs.length := by omega
      obtain ⟨av2, cv2, hav⟩ : ∃ a c, u7 = .slice a zs.length c := by
        rcases hrk.1.2 with ⟨rfl, h0⟩ | ⟨g, cap, _, rfl, _⟩
        · exact ⟨none, 0, by rw [h0]⟩
        · exact ⟨_, _, rfl⟩
      subst hav
      have HF1 := Lib.hid (HFIN.out _ _ _ hrel)
      have HRB := Lib.hid hrk.2
      clear hrel hrk
      go_wp2_with fail
      refine HF1.out.mono ?_
      rintro e w2 ⟨rfl, ho2, hb2⟩
      have HF2 := Lib.hid (HCMP.out _ _ _ ho2)
      have HB2 := Lib.hid hb2
      clear ho2 hb2
      go_wp2_with fail
      refine HF2.out.mono ?_
      rintro e w3 ⟨v3, rfl, ho3, hb3⟩
      have HF3 := Lib.hid (HQ.out _ w1 _ _ _ v3 hs1 HB1.out HRB.out HB2.out hb3 ho3)
      clear ho3 hb3
      go_wp2_with fail
      exact HF3.out
end Go.Proofs.YtnlnmbcaongehaaGreatDoor
namespace Go.Proofs.YtnlnmbcaongehaaGreatDoor
open Go.RowKit
/-- Whether two runs are equal. -/
def runEq (a b : Run) : Bool := a.text.toList == b.text.toList && (a.color == b.color && a.it == b.it && a.un == b.un) && a.ruby.toList == b.ruby.toList
/-- Whether two rows are equal. -/
def rowEq (a b : Row) : Bool := Lib.allEq runEq a.runs b.runs
/-- Whether two lists of rows are equal. -/
def rowsEq (a b : List Row) : Bool := Lib.allEq rowEq a b
instance : Inhabited Run := ⟨⟨⟨#[]⟩, 0, false, false, ⟨#[]⟩⟩⟩
instance : Inhabited Row := ⟨⟨none, 0, []⟩⟩
theorem getBang {α : Type} [Inhabited α] (xs : List α) (j : Nat) (h : j < xs.length) : xs[j]? = some xs[j]! := by
  rw [List.getElem?_eq_getElem h, getElem!_pos xs j h]
theorem run_runNe (x y : Run) (w : World) : (binOp .neq 75 (.agg x.enc.toArray) (.agg y.enc.toArray)).run Tryz.prog w = .ok (.bool (!runEq x y)) w := by
  simp [go_sem, Run.enc, runEq]
  repeat' split
  all_goals simp_all
theorem runNe : Go.Proofs.NeqAt Tryz.prog 75 (fun x => .agg (Run.enc x).toArray) runEq := ⟨run_runNe, Go.Proofs.GuardAt.agg (fun x => (Run.enc x).toArray) (by kernel_rfl)⟩
theorem equal119_len (a a' : Option Addr) (n m c c' : Nat) (w : World) (h : ¬ n = m) : Calls Tryz.prog 204 #[.slice a n c, .slice a' m c'] w fun e w' => e = .returned (.bool false) ∧ w = w' := by
  have h1 : (n != m) = true := by simpa using h
  have h2 : ((n : Int) != (m : Int)) = true := by simp; omega
  go_enter Tryz.func204, Tryz.ntmps204
  go_wp2_with fail
  go_ret
  exact ⟨rfl, rfl⟩
theorem equal119_none (a a' : Option Addr) (c c' : Nat) (w : World) : Calls Tryz.prog 204 #[.slice a 0 c, .slice a' 0 c'] w fun e w' => e = .returned (.bool true) ∧ w = w' := by
  go_enter Tryz.func204, Tryz.ntmps204
  go_wp2_with fail
  refine wp_loop_rounds 1 ?_
  rw [rounds_succ]
  go_wp2_with fail
  go_ret
  exact ⟨rfl, rfl⟩
theorem allEq_nil {α : Type} (eq : α → α → Bool) : Lib.allEq eq [] [] = true := by rw [Lib.allEq]
theorem equal119_calls (a a' : Option Addr) (c c' : Nat) (xs ys : List Run) (w : World) (h : Runs w a xs) (h' : Runs w a' ys) (hl : xs.length ≤ 4000000) (hl' : ys.length ≤ 4000000) :
    Calls Tryz.prog 204 #[.slice a xs.length c, .slice a' ys.length c'] w fun e w' => e = .returned (.bool (Lib.allEq runEq xs ys)) ∧ Below w.heap.size w w' := by
  by_cases hn : xs.length = ys.length
  · rcases h with rfl | ⟨b, off, rfl, hb, hc⟩
    · obtain rfl : ys = [] := List.eq_nil_of_length_eq_zero hn.symm
      rw [allEq_nil]
      exact (equal119_none a a' c c' w).mono fun e w' ⟨he, hw⟩ => ⟨he, hw ▸ Below.refl _ _⟩
    · rcases h' with rfl | ⟨b', off', rfl, hb', hc'⟩
      · obtain rfl : xs = [] := List.eq_nil_of_length_eq_zero hn
        rw [allEq_nil]
        exact (equal119_none _ a' c c' w).mono fun e w' ⟨he, hw⟩ => ⟨he, hw ▸ Below.refl _ _⟩
      · have h := Tryz.slices_Equal_f204 5 (fun w => by kernel_rfl) (fun w => by kernel_rfl) Run.enc (fun _ => rfl) runEq runNe b off xs.length c b' off' ys.length c' xs ys w (Nat.le_refl _) (Nat.le_refl _) (by omega) (by omega)
          (fun j hj i v hv => (hc j _ (getBang xs j hj)).1 i v hv) (fun j hj i v hv => (hc' j _ (getBang ys j hj)).1 i v hv)
        rw [List.take_length, List.take_length] at h
        exact h.mono fun e w' ⟨he, q, hw⟩ => ⟨he, hw ▸ below_drewN (Below.refl _ _) q⟩
  · rw [Lib.allEq_len runEq xs ys hn]
    exact (equal119_len a a' _ _ c c' w hn).mono fun e w' ⟨he, hw⟩ => ⟨he, hw ▸ Below.refl _ _⟩
theorem same_calls (r s : Row) (w : World) (h : r.lies w) (h' : s.lies w) (hl : r.runs.length ≤ 4000000) (hl' : s.runs.length ≤ 4000000) :
    Calls Tryz.prog 148 #[.agg r.enc.toArray, .agg s.enc.toArray] w fun e w' => e = .returned (.bool (rowEq r s)) ∧ Below w.heap.size w w' := by
  have hb2 : ∀ o o', Below w.heap.size w ((w.alloc o).alloc o') := fun o o' => ((Below.refl _ _).alloc (Nat.le_refl _) _).alloc (by simp) _
  have HC := Lib.hid (fun o o' => equal119_calls r.at_ s.at_ r.cap s.cap r.runs s.runs ((w.alloc o).alloc o') (h.later (hb2 o o')) (h'.later (hb2 o o')) hl hl')
  have HB := Lib.hid (fun o o' w1 (h1 : Below ((w.alloc o).alloc o').heap.size ((w.alloc o).alloc o') w1) => (hb2 o o').trans (h1.mono (by simp; omega)))
  unfold rowEq
  obtain ⟨ra, rc, rr⟩ := r
  obtain ⟨sa, sc, ss⟩ := s
  simp only [Row.enc] at HC ⊢
  generalize Lib.allEq runEq rr ss = G at *
  clear hb2
  go_enter Tryz.func148, Tryz.ntmps148
  go_wp2_with fail
  refine (HC.out _ _).mono ?_
  rintro e w1 ⟨rfl, hb⟩
  have hb' := HB.out _ _ _ hb
  clear hb
  go_wp2_with fail
  go_ret
  exact ⟨rfl, hb'⟩
theorem efunc_len (a a' : Option Addr) (n m c c' : Nat) (v : Value) (w : World) (h : ¬ n = m) : Calls Tryz.prog 147 #[.slice a n c, .slice a' m c', v] w fun e w' => e = .returned (.bool false) ∧ w = w' := by
  have h1 : (n != m) = true := by simpa using h
  have h2 : ((n : Int) != (m : Int)) = true := by simp; omega
  go_enter Tryz.func147, Tryz.ntmps147
  go_wp2_with fail
  go_ret
  exact ⟨rfl, rfl⟩
theorem allEq_at {α : Type} (eq : α → α → Bool) (xs ys : List α) (k : Nat) (x y : α) (hx : xs[k]? = some x) (hy : ys[k]? = some y) : Lib.allEq eq (xs.drop k) (ys.drop k) = (eq x y && Lib.allEq eq (xs.drop (k + 1)) (ys.drop (k + 1))) := by
  rw [drop_at xs k x hx, drop_at ys k y hy, Lib.allEq]
def RowsAt' (w : World) (a : Option Addr) (xs : List Row) : Prop := SliceOf 1 Row.enc Row.lies w a xs
set_option maxHeartbeats 1600000 in
theorem efunc_calls (a a' : Option Addr) (c c' : Nat) (xs ys : List Row) (w : World) (h : RowsAt' w a xs) (h' : RowsAt' w a' ys) (hf : ∀ r ∈ xs, r.runs.length ≤ 4000000) (hf' : ∀ r ∈ ys, r.runs.length ≤ 4000000) (hl : xs.length ≤ 4000000) (hn : xs.length = ys.length) :
    Calls Tryz.prog 147 #[.slice a xs.length c, .slice a' ys.length c', .func (.func 148) #[] #[]] w fun e w' => e = .returned (.bool (rowsEq xs ys)) ∧ Below w.heap.size w w' := by
  generalize hG : rowsEq xs ys = G
  have H0 := Lib.hid (show Lib.allEq rowEq (xs.drop 0) (ys.drop 0) = G from hG)
  have HNN := Lib.hid hn
  rw [← hn]
  clear hG hn
  have h1 : ((xs.length : Int) != (xs.length : Int)) = false := by simp
  go_enter Tryz.func147, Tryz.ntmps147
  go_wp2_with fail
  go_loopw [17] (fun i wr => ∃ k : Nat, k ≤ xs.length ∧ i = .int .i64 k ∧ Lib.allEq rowEq (xs.drop k) (ys.drop k) = G ∧ Below w.heap.size w wr) (fun i _ => xs.length - (intOf i).toNat)
  case atStart => exact ⟨0, by omega, rfl, H0.out, Below.refl _ _⟩
  case round =>
    obtain ⟨k, hk, rfl, hp, hb⟩ := hrel
    by_cases hlt : k < xs.length
    · obtain ⟨b, off, r, rfl, hbl, hx, hc, hok⟩ := (SliceOf.keeps Row.keeps _ _ _ _ hb h).at_ hlt
      obtain ⟨b', off', s, rfl, hbl', hy, hc', hok'⟩ := (SliceOf.keeps Row.keeps _ _ _ _ hb h').at_ (show k < ys.length by rw [← HNN.out]; exact hlt)
      rw [allEq_at rowEq xs ys k r s hx hy] at hp
      have hfr := hf r (List.mem_of_getElem? hx)
      have hfs := hf' s (List.mem_of_getElem? hy)
      have hb2 : ∀ o o', Below wr.heap.size wr ((wr.alloc o).alloc o') := fun o o' => ((Below.refl _ _).alloc (Nat.le_refl _) _).alloc (by simp) _
      have HC := Lib.hid (fun o o' => same_calls r s ((wr.alloc o).alloc o') (Row.keeps _ _ _ (hb2 o o') hok) (Row.keeps _ _ _ (hb2 o o') hok') hfr hfs)
      have HB := Lib.hid (fun o o' w1 (h1 : Below ((wr.alloc o).alloc o').heap.size ((wr.alloc o).alloc o') w1) => hb.trans (((hb2 o o').trans (h1.mono (by simp; omega))).mono hb.size))
      have HP := Lib.hid hp
      generalize rowEq r s = E at *
      obtain ⟨ra, rc, rr⟩ := r
      obtain ⟨sa, sc, ss⟩ := s
      simp only [Row.enc] at HC
      have d0 := hc 0 _ rfl
      have d0' := hc' 0 _ rfl
      simp only [Nat.add_zero, Nat.mul_one] at d0 d0'
      have dd : ∀ o, (wr.alloc o).cell? ⟨b', off' + k, none⟩ = some (.slice sa ss.length sc) := fun o => (World.cell?_alloc_lt _ _ _ (by simpa using hbl')).trans d0'
      clear hc hc' hp hx hy hok hok' hb2 hfr hfs H0 d0'
      cases E
      · go_wp2_with (go_at_call 148; refine (HC.out _ _).mono ?_; rintro e w1 ⟨rfl, hb1⟩; have hb1' := HB.out _ _ _ hb1; clear hb1)
        go_ret
        exact ⟨by rw [← HP.out]; rfl, hb1'⟩
      · go_wp2_with (go_at_call 148; refine (HC.out _ _).mono ?_; rintro e w1 ⟨rfl, hb1⟩; have hb1' := HB.out _ _ _ hb1; clear hb1)
        go_roundw
        case rel => exact ⟨k + 1, by omega, by go_num, by rw [← HP.out]; simp, hb1'⟩
        case measure => simp [intOf]; omega
    · obtain rfl : k = xs.length := by omega
      have hp2 : true = G := by
        rw [← hp, List.drop_length, HNN.out, List.drop_length, allEq_nil]
      have HP := Lib.hid hp2
      clear hp hp2 H0
      go_wp2_with fail
      go_ret
      exact ⟨by rw [← HP.out]; rfl, hb⟩
theorem sameRows_calls (a a' : Option Addr) (c c' : Nat) (xs ys : List Row) (w : World) (h : RowsAt' w a xs) (h' : RowsAt' w a' ys) (hf : ∀ r ∈ xs, r.runs.length ≤ 4000000) (hf' : ∀ r ∈ ys, r.runs.length ≤ 4000000) (hl : xs.length ≤ 4000000) :
    Calls Tryz.prog 84 #[.slice a xs.length c, .slice a' ys.length c'] w fun e w' => e = .returned (.bool (rowsEq xs ys)) ∧ Below w.heap.size w w' := by
  have HC : Hid (Calls Tryz.prog 147 #[.slice a xs.length c, .slice a' ys.length c', .func (.func 148) #[] #[]] w fun e w' => e = .returned (.bool (rowsEq xs ys)) ∧ Below w.heap.size w w') := by
    apply Lib.hid
    by_cases hn : xs.length = ys.length
    · exact efunc_calls a a' c c' xs ys w h h' hf hf' hl hn
    · rw [rowsEq, Lib.allEq_len rowEq xs ys hn]
      exact (efunc_len a a' _ _ c c' _ w hn).mono fun e w' ⟨he, hw⟩ => ⟨he, hw ▸ Below.refl _ _⟩
  go_enter Tryz.func84, Tryz.ntmps84
  go_wp2_with fail
  refine HC.out.mono ?_
  rintro e w1 ⟨rfl, hb⟩
  go_wp2_with fail
  go_ret
  exact ⟨rfl, hb⟩
end Go.Proofs.YtnlnmbcaongehaaGreatDoor
namespace Go.Proofs.YtnlnmbcaongehaaGreatDoor
open Go.RowKit
instance : Inhabited Ev := ⟨⟨0, 0, 0, ⟨#[]⟩, 0, ⟨#[]⟩, none, 0, []⟩⟩
end Go.Proofs.YtnlnmbcaongehaaGreatDoor
