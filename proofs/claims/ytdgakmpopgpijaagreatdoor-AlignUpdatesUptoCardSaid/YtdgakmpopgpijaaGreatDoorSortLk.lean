/- The contract of slices.SortFunc at links, ordered by their templates. -/
import Derived.Test.YtdgakmpopgpijaaGreatDoorSorts
import Derived.Test.YtdgakmpopgpijaaGreatDoorUpd
set_option linter.unusedVariables false
namespace Go.Proofs.YtdgakmpopgpijaaGreatDoor
open Go.RowKit

theorem flat_at {α : Type} (enc : α → List Value) (k : Nat) (hk : ∀ x, (enc x).length = k) : ∀ (xs : List α) (i : Nat) (x : α) (j : Nat) (v : Value), xs[i]? = some x → (enc x)[j]? = some v → (xs.flatMap enc)[i * k + j]? = some v
  | [], i, x, j, v, h, _ => by simp at h
  | y :: xs, 0, x, j, v, h, hv => by
    obtain rfl : y = x := by simpa using h
    have hj : j < (enc y).length := (List.getElem?_eq_some_iff.1 hv).1
    rw [List.flatMap_cons, show 0 * k + j = j by omega, List.getElem?_append_left hj]
    exact hv
  | y :: xs, i + 1, x, j, v, h, hv => by
    have hx : xs[i]? = some x := by simpa using h
    have := hk y
    rw [List.flatMap_cons, Nat.succ_mul, List.getElem?_append_right (by omega), show i * k + k + j - (enc y).length = i * k + j by omega]
    exact flat_at enc k hk xs i x j v hx hv
theorem flat_len {α : Type} (enc : α → List Value) (k : Nat) (hk : ∀ x, (enc x).length = k) : ∀ xs : List α, (xs.flatMap enc).length = xs.length * k
  | [] => by simp
  | x :: xs => by rw [List.flatMap_cons, List.length_append, hk, flat_len enc k hk xs, List.length_cons, Nat.succ_mul]; omega

theorem Lks.of_owns {w : World} {base : Nat} {v : Value} {xs : List Lk} (h : w.ownsRow base 49 3 v xs.length (xs.flatMap Lk.enc)) : ∃ a cap, v = .slice a xs.length cap ∧ LksAt w a xs := by
  have h' := h
  rcases h.2 with ⟨rfl, h0⟩ | ⟨g, cap, cur, rfl, hb, hg, _⟩
  · exact ⟨none, 0, by rw [h0], .inl (List.eq_nil_of_length_eq_zero h0)⟩
  · refine ⟨_, cap, rfl, .inr ⟨g, 0, rfl, (Array.getElem?_eq_some_iff.1 hg).1, fun i x hx => ⟨fun j v hv => ?_, trivial⟩⟩⟩
    have hi : i < xs.length := (List.getElem?_eq_some_iff.1 hx).1
    have hj : j < 3 := (List.getElem?_eq_some_iff.1 hv).1
    have hfl := flat_at Lk.enc 3 (fun _ => rfl) xs i x j v hx hv
    have hlen := flat_len Lk.enc 3 (fun _ => rfl) xs
    rw [show 0 + i * 3 + j = i * 3 + j by omega, h'.cellAt (i * 3 + j) (by omega)]
    exact hfl

/-- A link with a template in range. -/
def InR (x : Lk) : Prop := 0 ≤ x.tpl ∧ x.tpl ≤ 1099511627776
structure SLk where
  val : Lk
  ok : InR val
instance : Inhabited SLk := ⟨⟨⟨1, 0, 0⟩, by constructor <;> decide⟩⟩
def SLk.enc (x : SLk) : List Value := x.val.enc
/-- How two links compare. -/
def cmpLk (x y : SLk) : Int := min (max (x.val.tpl - y.val.tpl) (-1)) 1

theorem cmpLk_neg (x y : SLk) : ltOf cmpLk x y = decide (x.val.tpl < y.val.tpl) := by
  unfold ltOf cmpLk
  by_cases h : x.val.tpl < y.val.tpl
  · rw [decide_eq_true h]; simp; omega
  · rw [decide_eq_false h]; simp; omega
theorem cmpLk_swo : Sort.SWO (ltOf cmpLk) where
  irrefl x := by rw [cmpLk_neg]; simp
  trans x y z h1 h2 := by rw [cmpLk_neg] at *; simp at *; omega
  ntrans x y z h1 h2 := by rw [cmpLk_neg] at *; simp at *; omega

theorem cmp_calls (x y : SLk) (w : World) : Calls Tryz.prog 31 (#[.agg x.enc.toArray, .agg y.enc.toArray] ++ #[]) w fun e w' => e = .returned (.int .i64 (cmpLk x y)) ∧ ∃ q os', w' = Sort.grow (w.drewN q) os' := by
  unfold cmpLk SLk.enc
  obtain ⟨⟨a, b, c⟩, h1, h2⟩ := x
  obtain ⟨⟨a', b', c'⟩, h1', h2'⟩ := y
  simp only [Lk.enc] at *
  have e : ∀ o o' : Obj, ∃ q os', (w.alloc o).alloc o' = Sort.grow (w.drewN q) os' := fun o o' => ⟨0, #[o, o'], by
    rw [Sort.alloc_eq_grow, Sort.alloc_eq_grow, Sort.grow_grow]; rfl⟩
  have E := Lib.hid e
  clear e
  rw [show (#[Value.agg #[.int .i64 a, .int .i64 b, .int .u8 c], .agg #[.int .i64 a', .int .i64 b', .int .u8 c']] ++ #[] : Array Value) = #[Value.agg #[.int .i64 a, .int .i64 b, .int .u8 c], .agg #[.int .i64 a', .int .i64 b', .int .u8 c']] by simp]
  simp only at h1 h2 h1' h2'
  have hs : -1099511627776 ≤ a - a' := by omega
  have hs' : a - a' ≤ 1099511627776 := by omega
  go_enter Tryz.func31, Tryz.ntmps31
  go_wp2_with fail
  go_ret
  exact ⟨rfl, E.out _ _⟩

def SortLkPost (base : Nat) (v : Value) (xs : List Lk) (w : World) (e : Ending) (w' : World) : Prop :=
  e = .returned (.tuple #[]) ∧ (∃ ys a cap, v = .slice a xs.length cap ∧ LksAt w' a ys ∧ ys.Perm xs ∧ ys.Pairwise (fun x y => x.tpl ≤ y.tpl)) ∧ Below base w w'

theorem flatK_at (d : Array SLk) (i j : Nat) (hi : i < d.size) (hj : j < 3) : (Sort.flatK SLk.enc 3 d)[i * 3 + j]! = (d[i]!.val.enc)[j]! := by
  rw [Sort.get_flatK SLk.enc 3 d (i * 3 + j) (by omega), show (i * 3 + j) / 3 = i by omega, show (i * 3 + j) % 3 = j by omega]
  rfl

theorem sortLk_calls (base : Nat) (v : Value) (xs : List Lk) (w : World) (hown : w.ownsRow base 49 3 v xs.length (xs.flatMap Lk.enc)) (hR : ∀ x ∈ xs, InR x) (hl : xs.length ≤ 8000000) (hbase : base ≤ w.heap.size) :
    Calls Tryz.prog 30 #[v, .func (.func 31) #[] #[]] w (SortLkPost base v xs w) := by
  by_cases h0 : xs = []
  · subst h0
    obtain ⟨a, cap, rfl, hI⟩ := Lks.of_owns (xs := []) hown
    exact (Tryz.slices_SortFunc_none (α := SLk) a cap _ w).mono fun e w' ⟨he, hw⟩ => ⟨he, ⟨[], a, cap, rfl, .inl rfl, .nil, .nil⟩, hw ▸ Below.refl _ _⟩
  · rcases hown.2 with ⟨rfl, h1⟩ | ⟨g, cap, cur, rfl, hb, hg, _⟩
    · exact absurd (List.eq_nil_of_length_eq_zero h1) h0
    · have hgl : g < w.heap.size := (Array.getElem?_eq_some_iff.1 hg).1
      obtain ⟨d, hd, hdl⟩ : ∃ d : List SLk, d.map (·.val) = xs ∧ d.length = xs.length := ⟨xs.attach.map (fun x => ⟨x.1, hR x.1 x.2⟩), by simp, by simp⟩
      have hds : d.toArray.size = xs.length := by simpa using hdl
      have hget : ∀ i, i < xs.length → xs[i]? = some d.toArray[i]!.val := fun i hi => by
        have : i < d.length := by omega
        rw [← hd, List.getElem?_map, List.getElem?_eq_getElem this, getElem!_pos d.toArray i (by simpa using this)]
        simp
      have hflen := flat_len Lk.enc 3 (fun _ => rfl) xs
      have hH : Sort.HoldsK SLk.enc 3 w g 0 d.toArray := by
        intro t ht
        rw [Sort.size_flatK, hds] at ht
        have hi : t / 3 < xs.length := by omega
        have hj : t % 3 < 3 := by omega
        have ht2 : t / 3 * 3 + t % 3 = t := by omega
        refine ⟨?_, ?_⟩
        · have e1 := flatK_at d.toArray (t / 3) (t % 3) (by omega) hj
          rw [ht2] at e1
          rw [show 0 + t = t by omega, hown.cellAt t (by omega)]
          have e2 := flat_at Lk.enc 3 (fun _ => rfl) xs (t / 3) _ (t % 3) ((d.toArray[t / 3]!.val.enc)[t % 3]!) (hget _ hi) (getBang _ _ hj)
          rw [ht2] at e2
          rw [e2, ← e1]
          rfl
        · rw [show 0 + t = t by omega]
          exact hown.frozenAt t
      have hC : CmpLays Tryz.prog 31 #[] SLk.enc 3 cmpLk g 0 d.toArray.size w := fun m os dk _ x y => cmp_calls x y _
      have hcall := Tryz.slices_SortFunc (α := SLk) 3 (fun w => by kernel_rfl) (fun w => by kernel_rfl) SLk.enc (fun _ => rfl) (fun x v hv => by
        simp only [SLk.enc, Lk.enc, List.mem_cons, List.not_mem_nil, or_false] at hv
        rcases hv with rfl | rfl | rfl <;> rfl) cmpLk cmpLk_swo 31 #[] g 0 cap d.toArray w (fun args w => by kernel_rfl) hC hH hgl (by omega)
      rw [hds] at hcall
      refine hcall.mono fun e w' ⟨he, d', n, os, hp, hs, hw⟩ => ?_
      subst hw
      have hsz' : d'.size = xs.length := hp.1.trans hds
      have hs2 : (Sort.flatK SLk.enc 3 d').size = (Sort.flatK SLk.enc 3 d.toArray).size := by rw [Sort.size_flatK, Sort.size_flatK, hsz', hds]
      have hP : Sort.Holds id (Sort.putRow id (Sort.ahead w n) g 0 (Sort.flatK SLk.enc 3 d')) g 0 (Sort.flatK SLk.enc 3 d') := Sort.holds_putRow _ _ _ _ (Sort.flatK SLk.enc 3 d.toArray) _ (Sort.holds_ahead _ _ _ _ _ _ hH) hs2
      have hP2 := Sort.holds_grow id _ os g 0 _ (by simpa using hgl) hP
      refine ⟨he, ⟨d'.toList.map (·.val), _, cap, rfl, .inr ⟨g, 0, rfl, ?_, fun i x hx => ⟨fun j v hv => ?_, trivial⟩⟩, ?_, ?_⟩, below_sorted id n g 0 _ os hb hbase⟩
      · show g < (Sort.grow (Sort.putRow id (Sort.ahead w n) g 0 (Sort.flatK SLk.enc 3 d')) os).heap.size
        simp; omega
      · have hi : i < d'.size := by
          have := (List.getElem?_eq_some_iff.1 hx).1
          simpa using this
        have hj : j < 3 := (List.getElem?_eq_some_iff.1 hv).1
        have hxe : d'[i]!.val = x := by
          rw [getElem!_pos d' i hi]
          have := (List.getElem?_eq_some_iff.1 hx).2
          simpa using this
        have := (hP2 (i * 3 + j) (by rw [Sort.size_flatK]; omega)).1
        rw [flatK_at d' i j hi hj, hxe, getElem!_pos x.enc j (show j < x.enc.length from hj)] at this
        rw [show 0 + i * 3 + j = 0 + (i * 3 + j) by omega]
        refine this.trans ?_
        rw [← hv, List.getElem?_eq_getElem (show j < x.enc.length from hj)]
        rfl
      · have hpp := hp.2.2
        have e1 : d'.extract 0 xs.length = d' := by rw [← hsz']; simp
        have e2 : d.toArray.extract 0 xs.length = d.toArray := by rw [← hds]; simp
        rw [e1, e2] at hpp
        have := hpp.map (fun x : SLk => x.val)
        rw [← hd]
        simpa using this
      · rw [List.pairwise_map, List.pairwise_iff_getElem]
        intro i j hi hj hij
        have hj' : j < d'.size := by simpa using hj
        have hi' : i < d'.size := by omega
        have := hs i j (Nat.zero_le _) hij (by omega)
        rw [cmpLk_neg, getElem!_pos d' i hi', getElem!_pos d' j hj'] at this
        simp at this
        simpa using this

end Go.Proofs.YtdgakmpopgpijaaGreatDoor
