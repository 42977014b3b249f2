/- slices.SortStableFunc's helpers at events: swapRange and rotate, over any program that bears their bodies (so that an element's cells stay one row). -/
import Derived.Test.YtnlnmbcaongehaaGreatDoorProg
import Derived.Shelf.SlSortCmp.KitK
import Derived.Sort.WalkB2
import Derived.Sort.WalkB12
import Derived.Deep.LoopGhost
import Derived.Outline
import Derived.Lib.Hide
import Derived.Test.YtnlnmbcaongehaaGreatDoorBase12
set_option linter.unusedVariables false
set_option linter.unusedSimpArgs false
namespace Go.Proofs.YtnlnmbcaongehaaGreatDoor
open Go.Shelf Go.RowKit Go.Lib Go.Sort
variable {P : Program} {α : Type} [Inhabited α]
/-- The program bears the bodies of the stable sort at events. -/
structure StLay (P : Program) : Prop where
  mixed : P.follows .mixedOrders = true
  f299 : P.funcs[299]? = some Tryz.f299
  f290 : P.funcs[290]? = some Tryz.f290
  f278 : P.funcs[278]? = some Tryz.f278
  f247 : P.funcs[247]? = some Tryz.f247
  f185 : P.funcs[185]? = some Tryz.f185
  ins : SlLaysF0.n20 P ⟨fun | 20 => 277 | n => n, fun | 22 => 24 | 24 => 50 | 25 => 252 | n => n, fun n => n⟩
  t0 : P.underlying 0 = some (TypeDesc.tuple #[])
  a0 : ∀ w, (isAgg 0).run P w = .ok false w
  z0 : ∀ w, (Go.sizeOf 0).run P w = .ok 1 w
  v0 : ∀ w, (zeroValue 0).run P w = .ok (Value.tuple #[]) w
  t3 : P.underlying 3 = some (TypeDesc.int IntKind.i64)
  a3 : ∀ w, (isAgg 3).run P w = .ok false w
  z3 : ∀ w, (Go.sizeOf 3).run P w = .ok 1 w
  v3 : ∀ w, (zeroValue 3).run P w = .ok (Value.int IntKind.i64 0) w
  t4 : P.underlying 4 = some (TypeDesc.bool)
  a4 : ∀ w, (isAgg 4).run P w = .ok false w
  z4 : ∀ w, (Go.sizeOf 4).run P w = .ok 1 w
  v4 : ∀ w, (zeroValue 4).run P w = .ok (Value.bool false) w
  t24 : P.underlying 24 = some (TypeDesc.slice 50)
  a24 : ∀ w, (isAgg 24).run P w = .ok false w
  z24 : ∀ w, (Go.sizeOf 24).run P w = .ok 1 w
  v24 : ∀ w, (zeroValue 24).run P w = .ok (Value.slice none 0 0) w
  t238 : P.underlying 238 = some (TypeDesc.int IntKind.u64)
  a238 : ∀ w, (isAgg 238).run P w = .ok false w
  z238 : ∀ w, (Go.sizeOf 238).run P w = .ok 1 w
  v238 : ∀ w, (zeroValue 238).run P w = .ok (Value.int IntKind.u64 0) w
  t252 : P.underlying 252 = some (TypeDesc.func #[50, 50] #[3] false)
  a252 : ∀ w, (isAgg 252).run P w = .ok false w
  z252 : ∀ w, (Go.sizeOf 252).run P w = .ok 1 w
  v252 : ∀ w, (zeroValue 252).run P w = .ok (Value.nilFunc) w
/-- The row's places in [a, b) are those of d at f; all else is as it was. -/
def RotPost (enc : α → List Value) (k : Nat) (w0 : World) (blk off : Nat) (d : Array α) (a b : Nat) (f : Nat → Nat) (e : Ending) (w' : World) : Prop :=
  e = .returned (.tuple #[]) ∧ ∃ d', d'.size = d.size ∧ SWK enc k w0 blk off d' w' ∧ PermIn a b d d' ∧ ∀ t, d'[t]! = d[f t]!
set_option maxHeartbeats 4000000 in
set_option maxRecDepth 1000000 in
theorem swapRange_calls (L : StLay P) (k : Nat) (aE : ∀ w, (isAgg 50).run P w = .ok true w) (zE : ∀ w, (Go.sizeOf 50).run P w = .ok k w) (enc : α → List Value) (fv : Value) (blk off cap a b n : Nat) (d0 d : Array α) (w0 w : World)
    (R : RowK enc k w0 blk off d0) (hs : d0.size = d.size) (S : SWK enc k w0 blk off d w) (hab : a + n ≤ b) (hb : b + n ≤ d.size) (hsz : d.size < 4611686018427387904) :
    Calls P 299 #[.slice (some ⟨blk, off, none⟩) d.size cap, .int .i64 a, .int .i64 b, .int .i64 n, fv] w (RotPost enc k w0 blk off d a (b + n) (swIx a b n)) := by
  have mixed := L.mixed; have t0 := L.t0; have a0 := L.a0; have z0 := L.z0; have v0 := L.v0; have t3 := L.t3; have a3 := L.a3; have z3 := L.z3; have v3 := L.v3; have t4 := L.t4; have a4 := L.a4; have z4 := L.z4; have v4 := L.v4; have t24 := L.t24; have a24 := L.a24; have z24 := L.z24; have v24 := L.v24; have t252 := L.t252; have a252 := L.a252; have z252 := L.z252; have v252 := L.v252
  have FG := L.f299
  have S0 : Aside (SWK enc k w0 blk off d w) := S
  clear S L
  generalize hQ : RotPost enc k w0 blk off d a (b + n) (swIx a b n) = Q
  have HQ := Lib.hid (fun (dk : Array α) (W : World) (h1 : dk.size = d.size) (h2 : SWK enc k w0 blk off dk W) (h3 : PermIn a (b + n) d dk) (h4 : ∀ t, dk[t]! = d[swIx a b n t]!) => show Q (.returned (.tuple #[])) W from hQ ▸ ⟨rfl, dk, h1, h2, h3, h4⟩)
  clear hQ
  go_enter FG, Tryz.ntmps299
  go_wp2
  go_loopg [10] n (fun kx s10 wr => ∃ (i : Nat) (dk : Array α), s10 = .int .i64 i ∧ i ≤ n ∧ n - i ≤ kx ∧ dk.size = d.size ∧ Aside (SWK enc k w0 blk off dk wr) ∧ Hid (PermIn a (b + n) d dk) ∧ Hid (∀ t, dk[t]! = d[swIx a b i t]!))
  case atStart => exact ⟨0, d, rfl, Nat.zero_le _, by omega, rfl, S0, permIn_refl _ _ _, fun t => by rw [sw_zero]⟩
  case round =>
    clear S0
    obtain ⟨i, dk, rfl, hin, hkx, hds, S1, HP, HT⟩ := hrel
    by_cases hlt : i < n
    · have hltz : (i : Int) < (n : Int) := by omega
      go_wp2_with fail
      have ea : ((a : Int) + (i : Int)).toNat = a + i := by omega
      have pa : (0 : Int) ≤ (a : Int) + (i : Int) := by omega
      have ba : (a : Int) + (i : Int) < (d.size : Int) := by omega
      have ra : IntKind.i64.wrap ((a : Int) + (i : Int)) = (a : Int) + (i : Int) := by rw [IntKind.wrap_i64]; omega
      have ec : ((b : Int) + (i : Int)).toNat = b + i := by omega
      have pc : (0 : Int) ≤ (b : Int) + (i : Int) := by omega
      have bc : (b : Int) + (i : Int) < (d.size : Int) := by omega
      have rc : IntKind.i64.wrap ((b : Int) + (i : Int)) = (b : Int) + (i : Int) := by rw [IntKind.wrap_i64]; omega
      have S2 : Aside (SWK enc k w0 blk off (swp dk (a + i) (b + i)) ((wr.drew.setCells blk (off + (a + i) * k) (enc dk[b + i]!)).setCells blk (off + (b + i) * k) (enc dk[a + i]!))) := S1.out.swapped R (a + i) (b + i) (by omega) (by omega)
      have la := S1.out.ld1 R (by omega) P (a + i) (by omega)
      have lb := S1.out.ld1 R (by omega) P (b + i) (by omega)
      have sa := S1.out.st1 R (by omega) P (a + i) (by omega) dk[b + i]!
      have sb := S1.out.st2 R (by omega) P (a + i) (b + i) (by omega) (by omega) dk[b + i]! dk[a + i]!
      have na : (enc dk[a + i]!).length = k := R.hk _
      have nb : (enc dk[b + i]!).length = k := R.hk _
      generalize enc dk[a + i]! = cI at S2 la sb na
      generalize enc dk[b + i]! = cJ at S2 lb sa sb nb
      clear S1
      go_wp2_with fail
      go_big_region_o
      clear la lb sa sb
      generalize (wr.drew.setCells blk (off + (a + i) * k) cJ).setCells blk (off + (b + i) * k) cI = w2 at S2 ⊢
      go_wp2
      go_roundg (n - (i + 1))
      case measure => omega
      case rel =>
        exact ⟨i + 1, swp dk (a + i) (b + i), by go_num, by omega, Nat.le_refl _, by rw [size_swp]; exact hds, S2, permIn_trans _ _ _ _ _ HP.out (swp_permIn _ _ _ _ _ (by omega) (by omega) (by omega) (by omega) (by omega)), sw_step d dk a b n i hab hlt hb hds HT.out⟩
    · obtain rfl : i = n := by omega
      go_wp2
      go_end0
      exact HQ.out dk _ hds S1.out HP.out HT.out
set_option maxHeartbeats 4000000 in
set_option maxRecDepth 1000000 in
theorem rotate_calls (L : StLay P) (k : Nat) (aE : ∀ w, (isAgg 50).run P w = .ok true w) (zE : ∀ w, (Go.sizeOf 50).run P w = .ok k w) (enc : α → List Value) (fv : Value) (blk off cap a m b : Nat) (d0 d : Array α) (w0 w : World)
    (R : RowK enc k w0 blk off d0) (hs : d0.size = d.size) (S : SWK enc k w0 blk off d w) (ham : a < m) (hmb : m < b) (hb : b ≤ d.size) (hsz : d.size < 4611686018427387904) :
    Calls P 290 #[.slice (some ⟨blk, off, none⟩) d.size cap, .int .i64 a, .int .i64 m, .int .i64 b, fv] w (RotPost enc k w0 blk off d a b (rotIx a m b)) := by
  have mixed := L.mixed; have t0 := L.t0; have a0 := L.a0; have z0 := L.z0; have v0 := L.v0; have t3 := L.t3; have a3 := L.a3; have z3 := L.z3; have v3 := L.v3; have t4 := L.t4; have a4 := L.a4; have z4 := L.z4; have v4 := L.v4; have t24 := L.t24; have a24 := L.a24; have z24 := L.z24; have v24 := L.v24; have t252 := L.t252; have a252 := L.a252; have z252 := L.z252; have v252 := L.v252
  have FG := L.f290
  have e299 : ∀ args w, (callFunc 299 args).run P w = .ok (.enter 299 args) w := enters_of L.f299 (by kernel_rfl) rfl
  have HC := Lib.hid (fun (x y n : Nat) (dk : Array α) (W : World) (h1 : d0.size = dk.size) (h2 : SWK enc k w0 blk off dk W) (h3 : x + n ≤ y) (h4 : y + n ≤ dk.size) (h5 : dk.size < 4611686018427387904) => swapRange_calls L k aE zE enc fv blk off cap x y n d0 dk w0 W R h1 h2 h3 h4 h5)
  have S0 : Aside (SWK enc k w0 blk off d w) := S
  clear S L
  generalize hQ : RotPost enc k w0 blk off d a b (rotIx a m b) = Q
  have HQ := Lib.hid (fun (dk : Array α) (W : World) (h1 : dk.size = d.size) (h2 : SWK enc k w0 blk off dk W) (h3 : PermIn a b d dk) (h4 : ∀ t, dk[t]! = d[rotIx a m b t]!) => show Q (.returned (.tuple #[])) W from hQ ▸ ⟨rfl, dk, h1, h2, h3, h4⟩)
  clear hQ
  go_enter FG, Tryz.ntmps290
  go_wp2
  go_loopg [10, 11] (b - a) (fun kx s10 s11 wr => ∃ (i j : Nat) (dk : Array α), s10 = .int .i64 i ∧ s11 = .int .i64 j ∧ 0 < i ∧ 0 < j ∧ a + i ≤ m ∧ m + j ≤ b ∧ i + j ≤ kx ∧ dk.size = d.size ∧ Aside (SWK enc k w0 blk off dk wr) ∧ Hid (PermIn a b d dk) ∧ Hid (∀ t, dk[rotIx (m - i) m (m + j) t]! = d[rotIx a m b t]!))
  case atStart => exact ⟨m - a, b - m, d, by go_num, by go_num, by omega, by omega, by omega, by omega, by omega, rfl, S0, permIn_refl _ _ _, fun t => by rw [show m - (m - a) = a by omega, show m + (b - m) = b by omega]⟩
  case round =>
    clear S0
    obtain ⟨i, j, dk, rfl, rfl, hi, hj, hai, hjb, hkx, hds, S1, HP, HT⟩ := hrel
    obtain ⟨x, hx⟩ : ∃ x, x + i = m := ⟨m - i, by omega⟩
    have hxz : (m : Int) - (i : Int) = (x : Int) := by omega
    have HXN := Lib.hid (show m - i = x by omega)
    rcases Nat.lt_trichotomy i j with hij | hij | hij
    · have hijz : ((i : Int) != (j : Int)) = true := by simp; omega
      have hijn : (i != j) = true := by simp; omega
      have hg : ¬ (j : Int) < (i : Int) := by omega
      obtain ⟨y, hy⟩ : ∃ y, y + i = m + j := ⟨m + j - i, by omega⟩
      have hyz : (m : Int) + (j : Int) - (i : Int) = (y : Int) := by omega
      have hC := HC.out x y i dk wr (by omega) S1.out (by omega) (by omega) (by omega)
      rw [hds] at hC
      have HCC := Lib.hid hC
      have HY := Lib.hid (show y = m + j - i by omega)
      have hyb : y + i ≤ b := by omega
      have hax : a ≤ x := by omega
      clear hC hx hy
      go_wp2_with (go_at_fn 299; refine HCC.out.mono ?_; rintro e w' ⟨rfl, d', hd1, S2, hd3, hd4⟩)
      have HT2 : Hid (∀ t, d'[rotIx (m - i) m (m + (j - i)) t]! = d[rotIx a m b t]!) := fun t => by
        rw [hd4, ← HT.out t, HY.out, ← HXN.out, show m + (j - i) = m + j - i by omega, rot_right m i j t hi hij (by omega)]
      have HP2 : Hid (PermIn a b d d') := permIn_trans _ _ _ _ _ HP.out (permIn_mono _ _ x (y + i) a b hax hyb (by omega) hd3)
      have S3 : Aside (SWK enc k w0 blk off d' w') := S2
      have hds2 : d'.size = d.size := by omega
      clear hd1 hd3 hd4 S2 HCC
      go_wp2
      go_roundg (i + (j - i))
      case measure => omega
      case rel => exact ⟨i, j - i, d', rfl, by go_num, hi, by omega, hai, by omega, Nat.le_refl _, hds2, S3, HP2, HT2⟩
    · obtain rfl : i = j := hij
      have hijz : ((i : Int) != (i : Int)) = false := by simp
      have hC := HC.out x m i dk wr (by omega) S1.out (by omega) (by omega) (by omega)
      rw [hds] at hC
      have HCC := Lib.hid hC
      have hax : a ≤ x := by omega
      clear hC hx
      go_wp2_with (go_at_fn 299; refine HCC.out.mono ?_; rintro e w' ⟨rfl, d', hd1, S2, hd3, hd4⟩)
      go_end0
      refine HQ.out d' _ (by omega) S2 (permIn_trans _ _ _ _ _ HP.out (permIn_mono _ _ x (m + i) a b hax (by omega) (by omega) hd3)) fun t => ?_
      rw [hd4, ← HT.out t, ← HXN.out, rot_same m i t (by omega)]
    · have hijz : ((i : Int) != (j : Int)) = true := by simp; omega
      have hijn : (i != j) = true := by simp; omega
      have hg : (j : Int) < (i : Int) := by omega
      have hC := HC.out x m j dk wr (by omega) S1.out (by omega) (by omega) (by omega)
      rw [hds] at hC
      have HCC := Lib.hid hC
      have hax : a ≤ x := by omega
      clear hC hx
      go_wp2_with (go_at_fn 299; refine HCC.out.mono ?_; rintro e w' ⟨rfl, d', hd1, S2, hd3, hd4⟩)
      have HT2 : Hid (∀ t, d'[rotIx (m - (i - j)) m (m + j) t]! = d[rotIx a m b t]!) := fun t => by
        rw [hd4, ← HT.out t, ← HXN.out, show m - (i - j) = m - i + j by omega, rot_left m i j t hj hij (by omega)]
      have HP2 : Hid (PermIn a b d d') := permIn_trans _ _ _ _ _ HP.out (permIn_mono _ _ x (m + j) a b hax hjb (by omega) hd3)
      have S3 : Aside (SWK enc k w0 blk off d' w') := S2
      have hds2 : d'.size = d.size := by omega
      clear hd1 hd3 hd4 S2 HCC
      go_wp2
      go_roundg (i - j + j)
      case measure => omega
      case rel => exact ⟨i - j, j, d', by go_num, rfl, by omega, hj, by omega, hjb, Nat.le_refl _, hds2, S3, HP2, HT2⟩
end Go.Proofs.YtnlnmbcaongehaaGreatDoor
