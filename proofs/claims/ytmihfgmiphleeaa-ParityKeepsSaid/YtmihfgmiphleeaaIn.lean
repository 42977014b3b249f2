/- What the walks of the laws over a slice of bytes are told of it, and the frame of their proofs' common parts. -/
import Derived.Test.YtmihfgmiphleeaaAwake
import Derived.ChangeOld
import Derived.Below
set_option linter.unusedVariables false
namespace Go.Proofs.Ytmihfgmiphleeaa
open Go.ChangeShapes Go.WideShapes Go.ChangeAt Go.RowKit

/-- A slice of integers that came in: it is nil; or it leads to a row of 'cap' cells, the numbers 'zs'. -/
def IsRow (k : IntKind) (w : World) (a : Option Addr) (len cap : Nat) (zs : List Int) : Prop :=
  (a = none ∧ len = 0 ∧ cap = 0 ∧ zs = []) ∨
  ∃ x, a = some x ∧ len ≤ cap ∧ cap ≤ maxLen ∧ zs.length = cap ∧ (∀ i, i < zs.length → w.cell? (x.add i) = some (.int k (zs.getD i 0))) ∧ ∀ n ∈ zs, (Lit.int k n).wf = true

theorem IsRow.le {k : IntKind} {w : World} {a : Option Addr} {len cap : Nat} {zs : List Int} (h : IsRow k w a len cap zs) : len ≤ cap ∧ zs.length = cap ∧ cap ≤ maxLen := by
  rcases h with ⟨rfl, rfl, rfl, rfl⟩ | ⟨x, rfl, hl, hm, hz, _⟩
  · exact ⟨Nat.le_refl _, rfl, by unfold maxLen; omega⟩
  · exact ⟨hl, hz, hm⟩

theorem IsRow.holds {k : IntKind} {w : World} {a : Option Addr} {len cap : Nat} {zs : List Int} (h : IsRow k w a len cap zs) (n : Nat) (hn : n ≤ len) : Holds k w a (zs.take n) := by
  rcases h with ⟨rfl, rfl, rfl, rfl⟩ | ⟨⟨b, off, spot⟩, rfl, hl, hm, hz, hcell, hwz⟩
  · exact .inl (by simp)
  · by_cases h0 : n = 0
    · exact .inl (by simp [h0])
    · have hc := hcell 0 (by omega)
      have hspot : spot = none := by simpa [Addr.add] using World.cell?_spot hc
      subst hspot
      refine .inr ⟨b, off, rfl, World.block_lt_of_cell? w _ hc, fun i hi => ?_⟩
      simp at hi
      have := hcell i (by omega)
      have e : (⟨b, off, none⟩ : Addr).add i = ⟨b, off + i, none⟩ := by unfold Addr.add; split <;> simp_all
      rw [e] at this
      rw [this]
      simp [show i < n by omega]

theorem IsRow.bytes {w : World} {a : Option Addr} {len cap : Nat} {zs : List Int} (h : IsRow .u8 w a len cap zs) (n : Nat) : Bytes (zs.take n) := by
  rcases h with ⟨rfl, rfl, rfl, rfl⟩ | ⟨x, rfl, hl, hm, hz, hcell, hwz⟩
  · intro i hi; simp at hi
  · intro i hi
    have hm : (zs.take n).getD i 0 ∈ zs := by
      simp only [List.length_take] at hi
      have : (zs.take n).getD i 0 = zs[i] := by simp [show i < n by omega, show i < zs.length by omega]
      rw [this]
      exact List.getElem_mem _
    exact bounds_u8 (hwz _ hm)

theorem Holds.later {k : IntKind} {w w' : World} {a : Option Addr} {zs : List Int} {B : Nat} (h : Holds k w a zs) (hb : Below B w w') (hB : w.heap.size ≤ B) : Holds k w' a zs := by
  rcases h with h | ⟨b, off, rfl, hlt, hc⟩
  · exact .inl h
  · refine .inr ⟨b, off, rfl, Nat.lt_of_lt_of_le hlt hb.size, fun i hi => ?_⟩
    rw [hb.cell (p := ⟨b, off + i, none⟩) (by simp; omega)]
    exact hc i hi

theorem Made.holds {f : Int → Int} {zs : List Int} {w wr : World} (h : Made f zs w zs.length wr) : Holds .u8 wr (some ⟨w.heap.size, 0, none⟩) (zs.map f) := by
  refine .inr ⟨w.heap.size, 0, rfl, by have := h.size; omega, fun i hi => ?_⟩
  exact h.cells i (by simpa using hi)

theorem Bytes.map {f : Int → Int} {zs : List Int} (h : Bytes zs) (hf : ∀ x, 0 ≤ x → x ≤ 255 → 0 ≤ f x ∧ f x ≤ 255) : Bytes (zs.map f) := by
  intro i hi
  simp only [List.length_map] at hi
  have := h i hi
  have e : (zs.map f).getD i 0 = f (zs.getD i 0) := by simp [hi]
  rw [e]
  exact hf _ this.1 this.2

theorem encode_at (a : Option Addr) (cap n : Nat) (zs : List Int) (w : World) (hn : zs.length = n) (h : Holds .u8 w a zs) (hlen : zs.length ≤ 300) (hb : Bytes zs) :
    Calls Try.prog 17 #[.slice a n cap] w fun e w' => e = .returned (.slice (some ⟨w.heap.size, 0, none⟩) n n) ∧ Made addP zs w zs.length w' := by
  subst hn
  exact encode_calls a cap zs w h hlen hb

theorem decode_at (a : Option Addr) (cap n : Nat) (zs : List Int) (w : World) (hn : zs.length = n) (h : Holds .u8 w a zs) (hlen : zs.length ≤ 300) (hb : Bytes zs) :
    Calls Try.prog 15 #[.slice a n cap] w fun e w' => ∃ v, e = .returned (.tuple #[.slice (some ⟨w.heap.size, 0, none⟩) n n, v]) ∧ Both zs w zs.length v w' := by
  subst hn
  exact decode_calls a cap zs w h hlen hb

theorem bads_none (zs : List Int) (h : ∀ i, i < zs.length → odd (zs.getD i 0) = true) : ∀ k, k ≤ zs.length → bads zs k = []
  | 0, _ => rfl
  | k + 1, hk => by
    rw [bads_odd zs k (h k (by omega))]
    exact bads_none zs h k (by omega)

/-- An owned slice of no elements: its shape. -/
theorem owns_none {w : World} {base e : Nat} {v : Value} {xs : List Value} (h : w.ownsRow base e 1 v 0 xs) : ∃ a cap, v = .slice a 0 cap := by
  rcases h.2 with ⟨rfl, _⟩ | ⟨g, cap, cur, rfl, hb, _⟩
  · exact ⟨none, 0, rfl⟩
  · exact ⟨_, cap, rfl⟩

theorem addP_odd (x : Int) (h0 : 0 ≤ x) (h1 : x ≤ 255) : odd (addP x) = true :=
  byte_all (p := fun x => odd (addP x) = true) (by decide +kernel) x h0 h1
theorem addP_low (x : Int) (h0 : 0 ≤ x) (h1 : x ≤ 255) : bits .and .u8 (addP x) 127 = bits .and .u8 x 127 :=
  byte_all (p := fun x => bits .and .u8 (addP x) 127 = bits .and .u8 x 127) (by decide +kernel) x h0 h1

/-- What is left of a slice behind p[:min(len(p), 300)]. -/
theorem IsRow.cut {w : World} {a : Option Addr} {len cap : Nat} {zs : List Int} (h : IsRow .u8 w a len cap zs) :
    ∃ ys, ys.length = min len 300 ∧ Holds .u8 w a ys ∧ Bytes ys ∧ ys.length ≤ 300 ∧ ys.length ≤ len ∧ len ≤ cap ∧ cap ≤ maxLen := by
  have := h.le
  refine ⟨zs.take (min len 300), by simp; omega, h.holds _ (by omega), h.bytes _, by simp; omega, by simp; omega, this.1, this.2.2⟩

end Go.Proofs.Ytmihfgmiphleeaa
