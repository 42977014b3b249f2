/- slices.SortStableFunc at events: a permutation of what the row held, ascending. The stable sort at events: how two events compare, and the contract of slices.SortStableFunc with document.Sort's comparison. The contract of document.Sort: copies of the events, in order. -/
import Derived.Test.YtnlnmbcaongehaaGreatDoorBase14
import Derived.Test.YtnlnmbcaongehaaGreatDoorBase03
import Derived.Test.YtnlnmbcaongehaaGreatDoorBase06
import Derived.Test.YtnlnmbcaongehaaGreatDoorBase02
import Derived.Test.YtnlnmbcaongehaaGreatDoorBase05
set_option linter.unusedVariables false
set_option linter.unusedSimpArgs false
namespace Go.Proofs.YtnlnmbcaongehaaGreatDoor
open Go.Shelf Go.RowKit Go.Lib Go.Sort
variable {P : Program} {α : Type} [Inhabited α]
theorem insStep {lt : α → α → Bool} (hO : SWO lt) {d dk : Array α} {x bs : Nat} (hds : dk.size = d.size) (hb : x + bs ≤ d.size) (hP : PermIn 0 d.size d dk) (hpre : Pre lt bs dk x) :
    PermIn 0 d.size d (Sort.insertionSort lt dk x (x + bs)) ∧ Pre lt bs (Sort.insertionSort lt dk x (x + bs)) (x + bs) ∧ (Sort.insertionSort lt dk x (x + bs)).size = d.size := by
  obtain ⟨h1, h2⟩ := insertionSort_holds (lt := lt) hO dk x (x + bs) (by omega) (by omega)
  refine ⟨permIn_trans _ _ _ _ _ hP (permIn_mono _ _ x (x + bs) 0 d.size (by omega) hb (by omega) h1), .snoc x (hpre.congr fun i hi => h1.2.1 i (by omega)) h2, h1.1.trans hds⟩
theorem insLast {lt : α → α → Bool} (hO : SWO lt) {d dk : Array α} {x bs : Nat} (hds : dk.size = d.size) (hx : x ≤ d.size) (hb : d.size < x + bs) (hP : PermIn 0 d.size d dk) (hpre : Pre lt bs dk x) :
    PermIn 0 d.size d (Sort.insertionSort lt dk x d.size) ∧ Blk lt bs d.size (Sort.insertionSort lt dk x d.size) 0 ∧ (Sort.insertionSort lt dk x d.size).size = d.size := by
  obtain ⟨h1, h2⟩ := insertionSort_holds (lt := lt) hO dk x d.size hx (by omega)
  refine ⟨permIn_trans _ _ _ _ _ hP (permIn_mono _ _ x d.size 0 d.size (by omega) (Nat.le_refl _) (by omega) h1), (hpre.congr fun i hi => h1.2.1 i (by omega)).join (.go x (SortedIn.part h2 (Nat.le_refl _) (by omega)) (.stop _ (by omega))), h1.1.trans hds⟩
theorem symStep {lt : α → α → Bool} {d dk d2 : Array α} {x bs : Nat} (hds : dk.size = d.size) (hb : x + 2 * bs ≤ d.size) (hP : PermIn 0 d.size d dk) (hpre : Pre lt (2 * bs) dk x) (hblk : Blk lt bs d.size dk x) (h1 : PermIn x (x + 2 * bs) dk d2) (h2 : SortedIn lt x (x + 2 * bs) d2) :
    PermIn 0 d.size d d2 ∧ Pre lt (2 * bs) d2 (x + 2 * bs) ∧ Blk lt bs d.size d2 (x + 2 * bs) := by
  refine ⟨permIn_trans _ _ _ _ _ hP (permIn_mono _ _ x (x + 2 * bs) 0 d.size (by omega) hb (by omega) h1), .snoc x (hpre.congr fun i hi => h1.2.1 i (by omega)) h2, ?_⟩
  have := hblk.tail.tail
  rw [show x + bs + bs = x + 2 * bs by omega] at this
  exact this.congr fun i hi => h1.2.1 i (by omega)
theorem symParts {lt : α → α → Bool} {dk : Array α} {x bs n : Nat} (hb : x + 2 * bs ≤ n) (hblk : Blk lt bs n dk x) : SortedIn lt x (x + bs) dk ∧ SortedIn lt (x + bs) (x + 2 * bs) dk :=
  ⟨SortedIn.part hblk.head (Nat.le_refl _) (by omega), SortedIn.part hblk.tail.head (Nat.le_refl _) (by omega)⟩
theorem symParts2 {lt : α → α → Bool} {dk : Array α} {x bs n : Nat} (h1 : x + bs < n) (hb : n < x + 2 * bs) (hblk : Blk lt bs n dk x) : SortedIn lt x (x + bs) dk ∧ SortedIn lt (x + bs) n dk :=
  ⟨SortedIn.part hblk.head (Nat.le_refl _) (by omega), SortedIn.part hblk.tail.head (Nat.le_refl _) (by omega)⟩
theorem symLast {lt : α → α → Bool} {d dk d2 : Array α} {x bs : Nat} (hds : dk.size = d.size) (hx : x ≤ d.size) (hb : d.size < x + 2 * bs) (hP : PermIn 0 d.size d dk) (hpre : Pre lt (2 * bs) dk x) (h1 : PermIn x d.size dk d2) (h2 : SortedIn lt x d.size d2) :
    PermIn 0 d.size d d2 ∧ Blk lt (2 * bs) d.size d2 0 :=
  ⟨permIn_trans _ _ _ _ _ hP (permIn_mono _ _ x d.size 0 d.size (by omega) (Nat.le_refl _) (by omega) h1), (hpre.congr fun i hi => h1.2.1 i (by omega)).join (.go x (SortedIn.part h2 (Nat.le_refl _) (by omega)) (.stop _ (by omega)))⟩
theorem insertion_w {ρ : Ren} (L : SlLaysF0.n20 P ρ) (k : Nat) (aE : ∀ w, (isAgg (ρ.t 24)).run P w = .ok true w) (zE : ∀ w, (Go.sizeOf (ρ.t 24)).run P w = .ok k w) (enc : α → List Value) (cf : α → α → Int) (g : Nat) (cb : Array Value) (blk off cap a b : Nat) (d0 d : Array α) (w0 w : World)
    (eg : ∀ args w, (callFunc g args).run P w = .ok (.enter g args) w) (hcmp : CmpLays P g cb enc k cf blk off d0.size w0) (R : RowK enc k w0 blk off d0) (hs : d0.size = d.size) (S : SWK enc k w0 blk off d w) (hO : SWO (ltOf cf)) (hab : a ≤ b) (hb : b ≤ d.size) (hsz : d.size < 4611686018427387904) :
    Calls P (ρ.f 20) #[.slice (some ⟨blk, off, none⟩) d.size cap, .int .i64 a, .int .i64 b, .func (.func g) #[] cb] w fun e w' => e = .returned (.tuple #[]) ∧ SWK enc k w0 blk off (Sort.insertionSort (ltOf cf) d a b) w' := by
  have hs' : (Sort.insertionSort (ltOf cf) d a b).size = d.size := (insertionSort_holds hO d a b hab hb).1.1
  have hC : CmpLays P g cb enc k cf blk off d.size w := fun m os dk hdk x y => by
    obtain ⟨n0, os0, rfl⟩ := S
    rw [sortWorldK_on enc k w0 blk off n0 m d dk os0 os R.hblk hdk]
    exact hcmp _ _ dk (by omega) x y
  refine (AnyQ.insertionSortCmpFunc L k aE zE enc R.hk R.h1 cf g cb blk off cap a b d w eg hC (S.holds R.hblk R.hH hs.symm) (S.lt R.hblk) hab hb hsz).mono ?_
  rintro e w' ⟨rfl, n, os, rfl⟩
  exact ⟨rfl, S.on R.hblk n _ os hs'⟩
set_option maxHeartbeats 8000000 in
set_option maxRecDepth 1000000 in
theorem stable_calls (L : StLay P) (k : Nat) (aE : ∀ w, (isAgg 50).run P w = .ok true w) (zE : ∀ w, (Go.sizeOf 50).run P w = .ok k w) (enc : α → List Value) (cf : α → α → Int) (hO : SWO (ltOf cf)) (g : Nat) (cb : Array Value) (blk off cap : Nat) (d : Array α) (w : World)
    (eg : ∀ args w, (callFunc g args).run P w = .ok (.enter g args) w) (hcmp : CmpLays P g cb enc k cf blk off d.size w) (R : RowK enc k w blk off d) (S : SWK enc k w blk off d w) (hsz : d.size < 1152921504606846976) :
    Calls P 247 #[.slice (some ⟨blk, off, none⟩) d.size cap, .int .i64 d.size, .func (.func g) #[] cb] w (SymPost (ltOf cf) enc k w blk off d 0 d.size) := by
  have mixed := L.mixed; have t0 := L.t0; have a0 := L.a0; have z0 := L.z0; have v0 := L.v0; have t3 := L.t3; have a3 := L.a3; have z3 := L.z3; have v3 := L.v3; have t4 := L.t4; have a4 := L.a4; have z4 := L.z4; have v4 := L.v4; have t24 := L.t24; have a24 := L.a24; have z24 := L.z24; have v24 := L.v24; have t252 := L.t252; have a252 := L.a252; have z252 := L.z252; have v252 := L.v252
  have FG := L.f247
  have e278 : ∀ args w, (callFunc 278 args).run P w = .ok (.enter 278 args) w := enters_of L.f278 (by kernel_rfl) rfl
  have e277 : ∀ args w, (callFunc 277 args).run P w = .ok (.enter 277 args) w := L.ins.f20.enters rfl
  have HINS := Lib.hid (fun (x y : Nat) (dk : Array α) (W : World) (h1 : d.size = dk.size) (h2 : SWK enc k w blk off dk W) (h3 : x ≤ y) (h4 : y ≤ dk.size) =>
    (show Calls P 277 #[.slice (some ⟨blk, off, none⟩) dk.size cap, .int .i64 x, .int .i64 y, .func (.func g) #[] cb] W fun e w' => e = .returned (.tuple #[]) ∧ SWK enc k w blk off (Sort.insertionSort (ltOf cf) dk x y) w' from
      insertion_w L.ins k aE zE enc cf g cb blk off cap x y d dk w W eg hcmp R h1 h2 hO h3 h4 (by omega)))
  have HSYM := Lib.hid (fun (x y z : Nat) (dk : Array α) (W : World) (h1 : d.size = dk.size) (h2 : SWK enc k w blk off dk W) (h3 : x < y) (h4 : y < z) (h5 : z ≤ dk.size) (h6 : SortedIn (ltOf cf) x y dk) (h7 : SortedIn (ltOf cf) y z dk) =>
    symMerge_calls L k aE zE enc cf hO g cb blk off cap d w eg hcmp R (by omega) (z - x + 1) x y z dk W (by omega) h1 h2 h3 h4 h5 h6 h7)
  have S0 : Aside (SWK enc k w blk off d w) := S
  clear S L hcmp
  generalize hQ : SymPost (ltOf cf) enc k w blk off d 0 d.size = Q
  have HQ := Lib.hid (fun (dk : Array α) (W : World) (h1 : dk.size = d.size) (h2 : SWK enc k w blk off dk W) (h3 : PermIn 0 d.size d dk) (h4 : SortedIn (ltOf cf) 0 d.size dk) => show Q (.returned (.tuple #[])) W from hQ ▸ ⟨rfl, dk, h1, h2, h3, h4⟩)
  clear hQ
  obtain ⟨n, hn⟩ : ∃ n, n = d.size := ⟨_, rfl⟩
  go_enter FG, Tryz.ntmps247
  go_wp2
  go_loopg [7, 8] d.size (fun kx s7 s8 wr => ∃ (x : Nat) (dk : Array α), s7 = .int .i64 x ∧ s8 = .int .i64 ((x : Int) + 20) ∧ x ≤ d.size ∧ d.size - x ≤ kx ∧ dk.size = d.size ∧ Aside (SWK enc k w blk off dk wr) ∧ Hid (PermIn 0 d.size d dk) ∧ Hid (Pre (ltOf cf) 20 dk x))
  case atStart => exact ⟨0, d, rfl, by simp, Nat.zero_le _, by omega, rfl, S0, permIn_refl _ _ _, .zero⟩
  case round =>
    clear S0
    obtain ⟨x, dk, rfl, rfl, hx, hkx, hds, S1, HP, HB⟩ := hrel
    by_cases hlt : x + 20 ≤ d.size
    · have hltz : (x : Int) + 20 ≤ (d.size : Int) := by omega
      have hC := HINS.out x (x + 20) dk wr (by omega) S1.out (by omega) (by omega)
      rw [hds, show ((x + 20 : Nat) : Int) = (x : Int) + 20 by omega] at hC
      obtain ⟨q1, q2, q3⟩ := insStep hO hds hlt HP.out HB.out
      generalize Sort.insertionSort (ltOf cf) dk x (x + 20) = d2 at hC q1 q2 q3
      have HCC := Lib.hid hC
      have Q1 := Lib.hid q1
      have Q2 := Lib.hid q2
      have Q3 := Lib.hid q3
      clear hC q1 q2 q3
      go_wp2_with (go_at_fn 277; refine HCC.out.mono ?_; rintro e w2 ⟨rfl, S2'⟩)
      have S2 : Aside (SWK enc k w blk off d2 w2) := S2'
      go_roundg (d.size - (x + 20))
      case measure => omega
      case rel => exact ⟨x + 20, d2, by go_num, by go_num, hlt, Nat.le_refl _, Q3.out, S2, Q1.out, Q2.out⟩
    · have hltz : ¬ (x : Int) + 20 ≤ (d.size : Int) := by omega
      have hC := HINS.out x d.size dk wr (by omega) S1.out (by omega) (by omega)
      rw [hds] at hC
      obtain ⟨q1, q2, q3⟩ := insLast hO hds hx (by omega) HP.out HB.out
      generalize Sort.insertionSort (ltOf cf) dk x d.size = d2 at hC q1 q2 q3
      have HCC := Lib.hid hC
      have Q1 := Lib.hid q1
      have Q2 := Lib.hid q2
      have Q3 := Lib.hid q3
      clear hC q1 q2 q3
      go_wp2_with (go_at_fn 277; refine HCC.out.mono ?_; rintro e w2 ⟨rfl, S2'⟩)
      have S2 : Aside (SWK enc k w blk off d2 w2) := S2'
      clear S2'
      go_loopg [6, 7, 8, 9] d.size (fun kx s6 s7 s8 s9 wr => ∃ (bs : Nat) (dk : Array α), s6 = .int .i64 bs ∧ 0 < bs ∧ bs ≤ 2 * d.size + 20 ∧ d.size - bs ≤ kx ∧ dk.size = d.size ∧ Aside (SWK enc k w blk off dk wr) ∧ Hid (PermIn 0 d.size d dk) ∧ Hid (Blk (ltOf cf) bs d.size dk 0))
      case atStart => exact ⟨20, d2, rfl, by omega, by omega, by omega, Q3.out, S2, Q1.out, Q2.out⟩
      case round =>
        clear S1 S2 HP HB Q1 Q2 Q3 HCC hlt hltz hkx hds
        obtain ⟨bs, dk, rfl, hbs, hbs2, hkx, hds, S1, HP, HB⟩ := hrel
        by_cases hlt : bs < d.size
        · have hltz : (bs : Int) < (d.size : Int) := by omega
          go_wp2
          go_loopg [7, 8] d.size (fun ky s7 s8 wr => ∃ (y : Nat) (dk : Array α), s7 = .int .i64 y ∧ s8 = .int .i64 ((y : Int) + 2 * (bs : Int)) ∧ y ≤ d.size ∧ d.size - y ≤ ky ∧ dk.size = d.size ∧ Aside (SWK enc k w blk off dk wr) ∧ Hid (PermIn 0 d.size d dk) ∧ Hid (Pre (ltOf cf) (2 * bs) dk y) ∧ Hid (Blk (ltOf cf) bs d.size dk y))
          case atStart => exact ⟨0, dk, rfl, by simp, Nat.zero_le _, by omega, hds, S1, HP, .zero, HB⟩
          case round =>
            clear S1 HP HB hds
            obtain ⟨y, dk, rfl, rfl, hy, hky, hds, S1, HP, HE, HB⟩ := hrel
            by_cases hlt2 : y + 2 * bs ≤ d.size
            · have hlt2z : (y : Int) + 2 * (bs : Int) ≤ (d.size : Int) := by omega
              have hC := HSYM.out y (y + bs) (y + 2 * bs) dk wr (by omega) S1.out (by omega) (by omega) (by omega) (symParts hlt2 HB.out).1 (symParts hlt2 HB.out).2
              rw [hds, show ((y + bs : Nat) : Int) = (y : Int) + (bs : Int) by omega, show ((y + 2 * bs : Nat) : Int) = (y : Int) + 2 * (bs : Int) by omega] at hC
              have HCC := Lib.hid hC
              clear hC
              go_wp2_with (go_at_fn 278; refine HCC.out.mono ?_; rintro e w2 ⟨rfl, d2, z2, S2', p2, s2⟩)
              obtain ⟨q1, q2, q3⟩ := symStep hds hlt2 HP.out HE.out HB.out p2 s2
              have S2 : Aside (SWK enc k w blk off d2 w2) := S2'
              go_roundg (d.size - (y + 2 * bs))
              case measure => omega
              case rel => exact ⟨y + 2 * bs, d2, by go_num, by go_num, hlt2, Nat.le_refl _, z2.trans hds, S2, q1, q2, q3⟩
            · have hlt2z : ¬ (y : Int) + 2 * (bs : Int) ≤ (d.size : Int) := by omega
              by_cases hlt3 : y + bs < d.size
              · have hlt3z : (y : Int) + (bs : Int) < (d.size : Int) := by omega
                have hC := HSYM.out y (y + bs) d.size dk wr (by omega) S1.out (by omega) (by omega) (by omega) (symParts2 hlt3 (by omega) HB.out).1 (symParts2 hlt3 (by omega) HB.out).2
                rw [hds, show ((y + bs : Nat) : Int) = (y : Int) + (bs : Int) by omega] at hC
                have HCC := Lib.hid hC
                clear hC
                go_wp2_with (go_at_fn 278; refine HCC.out.mono ?_; rintro e w2 ⟨rfl, d2, z2, S2', p2, s2⟩)
                obtain ⟨q1, q2⟩ := symLast hds hy (by omega) HP.out HE.out p2 s2
                have S2 : Aside (SWK enc k w blk off d2 w2) := S2'
                go_roundg (d.size - 2 * bs)
                case measure => omega
                case rel => exact ⟨2 * bs, d2, by first | rfl | go_num | (congr 1; omega), by omega, by omega, Nat.le_refl _, z2.trans hds, S2, q1, q2⟩
              · have hlt3z : ¬ (y : Int) + (bs : Int) < (d.size : Int) := by omega
                have hso : SortedIn (ltOf cf) y d.size dk := SortedIn.part HB.out.head (Nat.le_refl _) (by omega)
                obtain ⟨q1, q2⟩ := symLast hds hy (by omega) HP.out HE.out (permIn_refl _ _ _) hso
                have Q1 := Lib.hid q1
                have Q2 := Lib.hid q2
                clear q1 q2 hso
                go_wp2
                go_roundg (d.size - 2 * bs)
                case measure => omega
                case rel => exact ⟨2 * bs, dk, by first | rfl | go_num | (congr 1; omega), by omega, by omega, Nat.le_refl _, hds, S1, Q1.out, Q2.out⟩
        · have hltz : ¬ (bs : Int) < (d.size : Int) := by omega
          go_wp2
          go_end0
          exact HQ.out dk _ hds S1.out HP.out (SortedIn.part HB.out.head (Nat.le_refl _) (by omega))
set_option maxHeartbeats 2000000 in
set_option maxRecDepth 1000000 in
theorem sortStable_calls (L : StLay P) (k : Nat) (aE : ∀ w, (isAgg 50).run P w = .ok true w) (zE : ∀ w, (Go.sizeOf 50).run P w = .ok k w) (enc : α → List Value) (cf : α → α → Int) (hO : SWO (ltOf cf)) (g : Nat) (cb : Array Value) (blk off cap : Nat) (d : Array α) (w : World)
    (eg : ∀ args w, (callFunc g args).run P w = .ok (.enter g args) w) (hcmp : CmpLays P g cb enc k cf blk off d.size w) (R : RowK enc k w blk off d) (S : SWK enc k w blk off d w) (hsz : d.size < 1152921504606846976) :
    Calls P 185 #[.slice (some ⟨blk, off, none⟩) d.size cap, .func (.func g) #[] cb] w (SymPost (ltOf cf) enc k w blk off d 0 d.size) := by
  have mixed := L.mixed; have t0 := L.t0; have a0 := L.a0; have z0 := L.z0; have v0 := L.v0; have t3 := L.t3; have a3 := L.a3; have z3 := L.z3; have v3 := L.v3; have t4 := L.t4; have a4 := L.a4; have z4 := L.z4; have v4 := L.v4; have t24 := L.t24; have a24 := L.a24; have z24 := L.z24; have v24 := L.v24; have t252 := L.t252; have a252 := L.a252; have z252 := L.z252; have v252 := L.v252
  have FG := L.f185
  have e247 : ∀ args w, (callFunc 247 args).run P w = .ok (.enter 247 args) w := enters_of L.f247 (by kernel_rfl) rfl
  have HC := Lib.hid (stable_calls L k aE zE enc cf hO g cb blk off cap d w eg hcmp R S hsz)
  clear L hcmp S
  generalize hQ : SymPost (ltOf cf) enc k w blk off d 0 d.size = Q at HC ⊢
  have HQ := Lib.hid (fun e W (h : Q e W) => show e = .returned (.tuple #[]) from (by rw [← hQ] at h; exact h.1))
  clear hQ
  go_enter FG, Tryz.ntmps185
  go_wp2_with fail
  refine HC.out.mono ?_
  intro e w' he
  obtain rfl := HQ.out _ _ he
  go_wp2_with fail
  go_end0
  exact he
end Go.Proofs.YtnlnmbcaongehaaGreatDoor
namespace Go.Proofs.YtnlnmbcaongehaaGreatDoor
open Go.RowKit
theorem Tryz.stLay : StLay Tryz.prog := {
  mixed := by kernel_rfl
  f299 := Tryz.func299
  f290 := Tryz.func290
  f278 := Tryz.func278
  f247 := Tryz.func247
  f185 := Tryz.func185
  ins := { mixed := by kernel_rfl, f20 := ⟨Tryz.f277.name, by decide, Tryz.func277.trans (congrArg some (by kernel_rfl))⟩, t0 := Tryz.underlying0, a0 := Tryz.isAgg0, z0 := Tryz.sizeOf0, v0 := Tryz.zeroValue0, t3 := Tryz.underlying3, a3 := Tryz.isAgg3, z3 := Tryz.sizeOf3, v3 := Tryz.zeroValue3, t4 := Tryz.underlying4, a4 := Tryz.isAgg4, z4 := Tryz.sizeOf4, v4 := Tryz.zeroValue4, t22 := Tryz.underlying24, a22 := Tryz.isAgg24, z22 := Tryz.sizeOf24, v22 := Tryz.zeroValue24, t25 := Tryz.underlying252, a25 := Tryz.isAgg252, z25 := Tryz.sizeOf252, v25 := Tryz.zeroValue252 }
  t0 := Tryz.underlying0
  a0 := Tryz.isAgg0
  z0 := Tryz.sizeOf0
  v0 := Tryz.zeroValue0
  t3 := Tryz.underlying3
  a3 := Tryz.isAgg3
  z3 := Tryz.sizeOf3
  v3 := Tryz.zeroValue3
  t4 := Tryz.underlying4
  a4 := Tryz.isAgg4
  z4 := Tryz.sizeOf4
  v4 := Tryz.zeroValue4
  t24 := Tryz.underlying24
  a24 := Tryz.isAgg24
  z24 := Tryz.sizeOf24
  v24 := Tryz.zeroValue24
  t238 := Tryz.underlying238
  a238 := Tryz.isAgg238
  z238 := Tryz.sizeOf238
  v238 := Tryz.zeroValue238
  t252 := Tryz.underlying252
  a252 := Tryz.isAgg252
  z252 := Tryz.sizeOf252
  v252 := Tryz.zeroValue252 }
/-- How two events compare. -/
def cmpEv (x y : Ev) : Int := orL [Lib.compareInt x.inn y.inn, Lib.compareInt x.id y.id]
theorem grown3 (w : World) (o o' o'' : Obj) : ∃ q os', (((w.alloc o).alloc o').alloc o'').drew = Sort.grow (w.drewN q) os' := ⟨1, #[o, o', o''], by
  rw [Sort.alloc_eq_grow, Sort.alloc_eq_grow, Sort.alloc_eq_grow, Sort.grow_grow, Sort.grow_grow]; rfl⟩
set_option maxRecDepth 100000 in
set_option maxHeartbeats 3200000 in
theorem sortCmp_calls (x y : Ev) (w : World) : Calls Tryz.prog 186 (#[.agg x.enc.toArray, .agg y.enc.toArray] ++ #[]) w fun e w' => e = .returned (.int .i64 (cmpEv x y)) ∧ ∃ q os', w' = Sort.grow (w.drewN q) os' := by
  unfold cmpEv
  obtain ⟨id, inn, out, region, kind, speaker, a, cap, xs⟩ := x
  obtain ⟨id', inn', out', region', kind', speaker', a', cap', xs'⟩ := y
  simp only [Ev.enc]
  rw [show (#[Value.agg [Value.int .i64 id, .int .i64 inn, .int .i64 out, .string region, .int .u8 kind, .string speaker, .slice a xs.length cap].toArray, .agg [Value.int .i64 id', .int .i64 inn', .int .i64 out', .string region', .int .u8 kind', .string speaker', .slice a' xs'.length cap'].toArray] ++ #[] : Array Value) = #[Value.agg [Value.int .i64 id, .int .i64 inn, .int .i64 out, .string region, .int .u8 kind, .string speaker, .slice a xs.length cap].toArray, .agg [Value.int .i64 id', .int .i64 inn', .int .i64 out', .string region', .int .u8 kind', .string speaker', .slice a' xs'.length cap'].toArray] by simp]
  have HC := Lib.hid (fun p q w => Tryz.cmp_Compare_int p q w)
  have hc1 : ∀ (cs cs' : Array Value) (j : Nat), ((w.alloc (.cells cs 50)).alloc (.cells cs' 50)).cell? ⟨w.heap.size, j, none⟩ = cs[j]? := fun cs cs' j => by
    rw [World.cell?_alloc_lt _ _ _ (by simp), cell_of_row _ _ j cs 50 (0, 0) (heap_alloc_last w _)]
  have hc2 : ∀ (cs cs' : Array Value) (j : Nat), ((w.alloc (.cells cs 50)).alloc (.cells cs' 50)).cell? ⟨w.heap.size + 1, j, none⟩ = cs'[j]? := fun cs cs' j => by
    rw [cell_of_row _ _ j cs' 50 (0, 0) (heap_two w _ _)]
  obtain ⟨cs, hcs⟩ : ∃ cs : Array Value, cs = #[.int .i64 id, .int .i64 inn, .int .i64 out, .string region, .int .u8 kind, .string speaker, .slice a xs.length cap] := ⟨_, rfl⟩
  obtain ⟨cs', hcs'⟩ : ∃ cs : Array Value, cs = #[.int .i64 id', .int .i64 inn', .int .i64 out', .string region', .int .u8 kind', .string speaker', .slice a' xs'.length cap'] := ⟨_, rfl⟩
  have HG := Lib.hid (fun o => grown3 w (.cells cs 50) (.cells cs' 50) o)
  have e1 := (hc1 cs cs' 0).trans (show _ = some (Value.int .i64 id) by rw [hcs]; rfl)
  have e2 := (hc1 cs cs' 1).trans (show _ = some (Value.int .i64 inn) by rw [hcs]; rfl)
  have e3 := (hc2 cs cs' 0).trans (show _ = some (Value.int .i64 id') by rw [hcs']; rfl)
  have e4 := (hc2 cs cs' 1).trans (show _ = some (Value.int .i64 inn') by rw [hcs']; rfl)
  rw [hcs, hcs'] at e1 e2 e3 e4 HG
  generalize hW : (w.alloc (.cells #[.int .i64 id, .int .i64 inn, .int .i64 out, .string region, .int .u8 kind, .string speaker, .slice a xs.length cap] 50)).alloc (.cells #[.int .i64 id', .int .i64 inn', .int .i64 out', .string region', .int .u8 kind', .string speaker', .slice a' xs'.length cap'] 50) = W at *
  have HW := Lib.hid hW
  clear hW hc1 hc2 hcs hcs' cs cs'
  go_enter Tryz.func186, Tryz.ntmps186
  go_wp2_with fail
  rw [HW.out]
  refine wp_region_still_tail 12 (by kernel_rfl) (by kernel_rfl) ?_
  simp only [List.take_succ_cons, List.take_zero, List.drop_succ_cons, List.drop_zero]
  repeat still_step
  still_call (HC.out _ _ _)
  repeat still_step
  still_call (HC.out _ _ _)
  refine wpStill_nil ?_
  have HI : Hid (∀ w2 : World, Ints (w2.alloc (.cells #[.int .i64 (Lib.compareInt inn inn'), .int .i64 (Lib.compareInt id id')] 3)) (some ⟨w2.heap.size, 0, none⟩) [Lib.compareInt inn inn', Lib.compareInt id id']) := Lib.hid (fun w2 => by
    refine .inr ⟨w2.heap.size, 0, rfl, by simp, fun i z hz => ⟨fun j v hv => ?_, trivial⟩⟩
    match j, hv with
    | 0, hv =>
      simp at hv
      subst hv
      rw [show 0 + i * 1 + 0 = i by omega, cell_of_row _ _ i _ 3 (0, 0) (heap_alloc_last w2 _)]
      match i, hz with
      | 0, hz => simp at hz; subst hz; rfl
      | 1, hz => simp at hz; subst hz; rfl)
  have HI2 : Hid (Ints ((W.alloc (.cells #[.int .i64 (Lib.compareInt inn inn'), .int .i64 (Lib.compareInt id id')] 3)).drew) (some ⟨W.heap.size, 0, none⟩) [Lib.compareInt inn inn', Lib.compareInt id id']) := Lib.hid (HI.out W)
  go_wp2_with fail
  refine (or_calls _ _ [Lib.compareInt inn inn', Lib.compareInt id id'] _ HI2.out (by simp)).mono ?_
  rintro e w' ⟨rfl, rfl⟩
  go_wp2_with fail
  go_ret
  exact ⟨rfl, HG.out _⟩
theorem orL_two (p q : Int) : orL [p, q] = if p = 0 then q else p := by
  simp only [orL]
  repeat' split
  all_goals simp_all
theorem cmpInt_cases (x y : Int) : (Lib.compareInt x y = -1 ∧ x < y) ∨ (Lib.compareInt x y = 0 ∧ x = y) ∨ (Lib.compareInt x y = 1 ∧ y < x) := by
  unfold Lib.compareInt
  repeat' split
  all_goals omega
theorem cmpEv_neg (x y : Ev) : ltOf cmpEv x y = decide (x.inn < y.inn ∨ (x.inn = y.inn ∧ x.id < y.id)) := by
  unfold ltOf cmpEv
  rw [orL_two]
  congr 1
  rcases cmpInt_cases x.inn y.inn with ⟨h, h1⟩ | ⟨h, h1⟩ | ⟨h, h1⟩ <;> rcases cmpInt_cases x.id y.id with ⟨k, k1⟩ | ⟨k, k1⟩ | ⟨k, k1⟩ <;> rw [h, k] <;> simp <;> omega
theorem cmpEv_swo : Sort.SWO (ltOf cmpEv) where
  irrefl x := by rw [cmpEv_neg]; simp
  trans x y z h1 h2 := by rw [cmpEv_neg] at *; simp at *; omega
  ntrans x y z h1 h2 := by rw [cmpEv_neg] at *; simp at *; omega
end Go.Proofs.YtnlnmbcaongehaaGreatDoor
namespace Go.Proofs.YtnlnmbcaongehaaGreatDoor
open Go.RowKit
section
variable {α : Type} [Inhabited α] {enc : α → List Value} {k : Nat} (hk : ∀ x, (enc x).length = k)
include hk
theorem flatK_list (hk0 : 0 < k) (d : Array α) (t : Nat) (ht : t < d.size * k) : (d.toList.flatMap enc)[t]? = some (Sort.flatK enc k d)[t]! := by
  have hi : t / k < d.size := Nat.div_lt_of_lt_mul (by rw [Nat.mul_comm]; exact ht)
  have hm : t % k < k := Nat.mod_lt _ hk0
  have he : t / k * k + t % k = t := by rw [Nat.mul_comm]; exact Nat.div_add_mod t k
  have hx : d.toList[t / k]? = some d[t / k]! := by
    rw [getElem!_pos d (t / k) hi, Array.getElem?_toList, Array.getElem?_eq_getElem hi]
  have hv : (enc d[t / k]!)[t % k]? = some (enc d[t / k]!)[t % k]! := by
    rw [getElem!_pos _ (t % k) (by rw [hk]; exact hm), List.getElem?_eq_getElem (by rw [hk]; exact hm)]
  have := flat_at enc k hk d.toList (t / k) _ (t % k) _ hx hv
  rw [he] at this
  rw [this, Sort.get_flatK enc k d t ht]
theorem holdsK_owns (hk0 : 0 < k) {w : World} {base T g cap : Nat} {zs : List α} (h : w.ownsRow base T k (.slice (some ⟨g, 0, none⟩) zs.length cap) zs.length (zs.flatMap enc)) : Sort.HoldsK enc k w g 0 zs.toArray := by
  intro t ht
  rw [Sort.size_flatK] at ht
  have ht' : t < zs.length * k := by simpa using ht
  refine ⟨?_, ?_⟩
  · rw [show 0 + t = t by omega, h.cellAt t ht']
    exact flatK_list hk hk0 zs.toArray t ht
  · rw [show 0 + t = t by omega]
    exact h.frozenAt t
theorem owns_sortedK (hk0 : 0 < k) {w : World} {base T g cap n q : Nat} {os : Array Obj} {zs : List α} {d' : Array α} (h : w.ownsRow base T k (.slice (some ⟨g, 0, none⟩) n cap) n (zs.flatMap enc)) (hd : d'.size = n) :
    (sortWorldK enc k w g 0 q d' os).ownsRow base T k (.slice (some ⟨g, 0, none⟩) n cap) n (d'.toList.flatMap enc) := by
  have hlen : (d'.toList.flatMap enc).length = n * k := by rw [flat_len enc k hk]; simp [hd]
  rcases h.2 with ⟨e0, _⟩ | ⟨g', cap', cur, e0, hb, hg, hn, hm, hs, ht⟩
  · cases e0
  · injection e0 with e1 _ e3
    injection e1 with e1
    injection e1 with e1
    subst e1; subst e3
    have hgl : g < w.heap.size := (Array.getElem?_eq_some_iff.1 hg).1
    refine ⟨hlen, .inr ⟨g, cap, Sort.putCells id 0 (Sort.flatK enc k d') cur, rfl, hb, ?_, hn, hm, by simpa [Sort.putCells] using hs, ?_⟩⟩
    · unfold sortWorldK Sort.putRowK
      rw [Sort.heap_grow_old _ _ (by simpa using hgl)]
      simp [Sort.putRow, Sort.mapBlock, Sort.ahead, Array.getElem?_modify, hg, Sort.onCells]
    · apply List.ext_getElem?
      intro j
      rw [List.getElem?_take, Array.getElem?_toList]
      by_cases hj : j < n * k
      · have hjc : j < cur.size := by
          rw [hs]
          exact Nat.lt_of_lt_of_le hj (Nat.mul_le_mul_right k hn)
        simp only [if_pos hj, Sort.putCells, Array.getElem?_mapIdx, Array.getElem?_eq_getElem hjc, Option.map_some]
        rw [if_pos ⟨Nat.zero_le _, by rw [Sort.size_flatK, hd]; omega⟩, flatK_list hk hk0 d' j (by rw [hd]; exact hj)]
        rfl
      · rw [if_neg hj, List.getElem?_eq_none (by rw [hlen]; omega)]
end
theorem heap_sortedK {α : Type} [Inhabited α] (enc : α → List Value) (k : Nat) (w : World) (g q b : Nat) (d' : Array α) (os : Array Obj) (hb : b < w.heap.size) (hne : b ≠ g) : (sortWorldK enc k w g 0 q d' os).heap[b]? = w.heap[b]? := by
  unfold sortWorldK Sort.putRowK
  rw [Sort.heap_grow_old _ _ (by simpa using hb)]
  simp only [Sort.putRow, Sort.mapBlock, Array.getElem?_modify]
  rw [if_neg (fun e => hne e.symm)]
  rfl
theorem size_sortedK {α : Type} [Inhabited α] (enc : α → List Value) (k : Nat) (w : World) (g q : Nat) (d' : Array α) (os : Array Obj) : w.heap.size ≤ (sortWorldK enc k w g 0 q d' os).heap.size := by
  unfold sortWorldK Sort.putRowK
  simp
theorem Ev.deep : Deep Ev.lies Ev.uses := ⟨fun x w w' h hs hb => Ev.frame h hs hb, fun x w b h hu => Ev.uses_lt h hu⟩
abbrev GrowEv := GrowL 50 7 Ev.enc Ev.lies Ev.uses
/-- Behind the sort: the events of the row, in order. -/
def SortRow (B : Nat) (W0 : World) (v : Value) (zs : List Ev) (e : Ending) (w' : World) : Prop :=
  e = .returned (.tuple #[]) ∧ ∃ ys, GrowEv B W0 v ys w' ∧ ys.Perm zs ∧ ys.Pairwise (fun x y => ltOf cmpEv y x = false)
theorem ev_one : ∀ (x : Ev) (v : Value), v ∈ x.enc → v.oneCell' = true := Ev.one
theorem ins_none (w : World) (fv : Value) : Calls Tryz.prog 277 #[.slice none 0 0, .int .i64 0, .int .i64 0, fv] w fun e w' => e = .returned (.tuple #[]) ∧ w = w' := by
  go_enter Tryz.func277, Tryz.ntmps277
  go_wp2_with fail
  refine wp_loop_rounds 1 ?_
  rw [rounds_succ]
  go_wp2_with fail
  go_end0
  exact ⟨rfl, rfl⟩
theorem stb_none (w : World) (fv : Value) : Calls Tryz.prog 247 #[.slice none 0 0, .int .i64 0, fv] w fun e w' => e = .returned (.tuple #[]) ∧ w = w' := by
  have HI := Lib.hid (ins_none w fv)
  go_enter Tryz.func247, Tryz.ntmps247
  go_wp2_with fail
  refine wp_loop_rounds 1 ?_
  rw [rounds_succ]
  go_wp2_with fail
  refine HI.out.mono ?_
  rintro e w1 ⟨rfl, rfl⟩
  go_wp2_with fail
  refine wp_loop_rounds 1 ?_
  rw [rounds_succ]
  go_wp2_with fail
  go_end0
  exact ⟨rfl, rfl⟩
theorem stable_none (w : World) (fv : Value) : Calls Tryz.prog 185 #[.slice none 0 0, fv] w fun e w' => e = .returned (.tuple #[]) ∧ w = w' := by
  have HI := Lib.hid (stb_none w fv)
  go_enter Tryz.func185, Tryz.ntmps185
  go_wp2_with fail
  refine HI.out.mono ?_
  rintro e w1 ⟨rfl, rfl⟩
  go_wp2_with fail
  go_end0
  exact ⟨rfl, rfl⟩
theorem sortEvs_calls (B : Nat) (W0 : World) (v : Value) (zs : List Ev) (w : World) (h : GrowEv B W0 v zs w) (hl : zs.length ≤ 4000000) (hB : B ≤ W0.heap.size) :
    Calls Tryz.prog 185 #[v, .func (.func 186) #[] #[]] w (SortRow B W0 v zs) := by
  obtain ⟨h1, h2, h3⟩ := h
  have hB1 : B ≤ w.heap.size := Nat.le_trans hB h3.size
  rcases h1.2 with ⟨rfl, h0⟩ | ⟨g, cap, cur, rfl, hb, hg, _⟩
  · have hz : zs = [] := List.eq_nil_of_length_eq_zero h0
    subst hz
    exact (stable_none w _).mono fun e w' ⟨he, hw⟩ => ⟨he, [], ⟨hw ▸ h1, fun z hz => by simp at hz, hw ▸ h3⟩, .nil, .nil⟩
  · have hgl : g < w.heap.size := (Array.getElem?_eq_some_iff.1 hg).1
    have hH := holdsK_owns (enc := Ev.enc) (k := 7) (fun _ => rfl) (by decide) h1
    have hC : CmpLays Tryz.prog 186 #[] Ev.enc 7 cmpEv g 0 zs.toArray.size w := fun m os dk _ x y => sortCmp_calls x y _
    have R : RowK Ev.enc 7 w g 0 zs.toArray := ⟨fun _ => rfl, ev_one, hH, hgl⟩
    have S : SWK Ev.enc 7 w g 0 zs.toArray w := ⟨0, #[], by unfold sortWorldK; rw [Sort.grow_empty]; exact (Sort.putRowK_self Ev.enc 7 w g 0 zs.toArray hH).symm⟩
    have hcall := sortStable_calls Tryz.stLay 7 (fun w => by kernel_rfl) (fun w => by kernel_rfl) Ev.enc cmpEv cmpEv_swo 186 #[] g 0 cap zs.toArray w (fun args w => by kernel_rfl) hC R S (by simp; omega)
    simp only [List.size_toArray] at hcall
    refine hcall.mono fun e w' ⟨he, d', hd, ⟨q, os, hw⟩, hp, hs⟩ => ?_
    subst hw
    simp only [List.size_toArray] at hd
    have hperm : d'.toList.Perm zs := by
      have hpp := hp.2.2
      have e1 : d'.extract 0 zs.length = d' := by rw [← hd]; simp
      have e2 : zs.toArray.extract 0 zs.length = zs.toArray := by simp
      rw [e1, e2] at hpp
      simpa using hpp
    have hlen : d'.toList.length = zs.length := by simpa using hd
    refine ⟨he, d'.toList, ⟨?_, fun z hz => ?_, ?_⟩, hperm, ?_⟩
    · rw [hlen]
      exact owns_sortedK (enc := Ev.enc) (k := 7) (fun _ => rfl) (by decide) h1 hd
    · obtain ⟨hl, hu⟩ := h2 z (hperm.mem_iff.1 hz)
      refine ⟨Ev.frame hl (size_sortedK ..) (fun b hb => heap_sortedK _ _ _ _ _ _ _ _ (Ev.uses_lt hl hb) (fun e => (hu b hb).1 (by rw [e]; rfl))), hu⟩
    · exact h3.trans ⟨rfl, rfl, rfl, size_sortedK .., fun b hb' => heap_sortedK _ _ _ _ _ _ _ _ (Nat.lt_of_lt_of_le hb' hB1) (by omega)⟩
    · rw [List.pairwise_iff_getElem]
      intro i j hi hj hij
      have hi' : i < d'.size := by simpa using hi
      have hj' : j < d'.size := by simpa using hj
      have := hs i j (Nat.zero_le _) hij (by omega)
      rw [getElem!_pos d' i hi', getElem!_pos d' j hj'] at this
      simpa using this
/-- Copies of the events, in order. -/
def SortedCopy (xs : List Ev) (w : World) (e : Ending) (w' : World) : Prop :=
  ∃ v ys, e = .returned v ∧ GrowEv w.heap.size w v ys w' ∧ (ys.map Ev.c).Perm (xs.map Ev.c) ∧ ys.Pairwise (fun x y => ltOf cmpEv y x = false)
/-- k events are copied. -/
def SortCopyRel (xs : List Ev) (w : World) (k : Nat) (v : Value) (wr : World) : Prop := ∃ zs, zs.length = k ∧ zs.map Ev.c = (xs.take k).map Ev.c ∧ GrowEv w.heap.size w v zs wr
theorem take_snoc' {α : Type} (xs : List α) (k : Nat) (x : α) (h : xs[k]? = some x) : xs.take (k + 1) = xs.take k ++ [x] := by
  rw [List.take_add_one, h]
  rfl
theorem SortCopyRel.step {xs : List Ev} {w wr w1 w2 : World} {k : Nat} {v v' : Value} {zs : List Ev} {x y : Ev} {cs : Array Value} (hx : xs[k]? = some x) (h1 : zs.length = k) (h2 : zs.map Ev.c = (xs.take k).map Ev.c) (h3 : GrowEv w.heap.size w v zs wr) (hb : Below wr.heap.size wr w1) (hyc : y.c = x.c) (hyl : y.lies w1) (hyu : ∀ b, y.uses b → wr.heap.size ≤ b)
    (hcs : cs.toList = y.enc) (hown : w2.ownsRow w.heap.size 50 7 v' (k + 1) (zs.flatMap Ev.enc ++ cs.toList)) (hg : (w1.alloc (.cells cs 50)).grownBy w2 v.ownBlock) (hat : v'.ownBlock = v.ownBlock ∨ v'.ownBlock = some (w1.heap.size + 1)) : SortCopyRel xs w (k + 1) v' w2 := by
  subst h1
  refine ⟨zs ++ [y], by simp, by rw [List.map_append, take_snoc' xs _ x hx, List.map_append, h2]; simp [hyc], ?_⟩
  have h3' := GrowL.later Ev.deep h3 (Nat.le_refl _) hb
  refine GrowL.push Ev.deep h3' (Nat.le_refl _) hcs hown hg hat hyl (fun b hu => ⟨fun e => ?_, Nat.le_trans h3.2.2.size (hyu b hu)⟩)
  have := (h3.1.lt b e).2
  have := hyu b hu
  omega
set_option maxRecDepth 100000 in
set_option maxHeartbeats 3200000 in
theorem docSort_calls (a : Option Addr) (cap : Nat) (xs : List Ev) (w : World) (h : EvsAt w a xs) (hf : ∀ x ∈ xs, x.fits) (hl : xs.length ≤ 4000000) :
    Calls Tryz.prog 111 #[.slice a xs.length cap] w (SortedCopy xs w) := by
  have HX := Lib.hid h
  have HF := Lib.hid hf
  have HQ := Lib.hid (fun (v : Value) (ys zs : List Ev) (w' : World) (h1 : GrowEv w.heap.size w v ys w') (h2 : ys.Perm zs) (h3 : ys.Pairwise (fun x y => ltOf cmpEv y x = false)) (h4 : zs.map Ev.c = (xs.take xs.length).map Ev.c) => (show SortedCopy xs w (.returned v) w' from ⟨v, ys, rfl, h1, by rw [List.take_length] at h4; rw [← h4]; exact h2.map _, h3⟩))
  obtain ⟨j0, hj, hy0, hy1, hy2⟩ := info_parts Tryz.info50
  have JI := Lib.hid hj; have J0 := Lib.hid hy0; have J1 := Lib.hid hy1; have J2 := Lib.hid hy2
  generalize SortedCopy xs w = Q at *
  clear hj hy0 hy1 hy2 h hf
  go_enter Tryz.func111, Tryz.ntmps111
  go_wp2_with fail
  go_loopw [3, 8] (fun v i wr => ∃ k : Nat, k ≤ xs.length ∧ i = .int .i64 k ∧ SortCopyRel xs w k v wr) (fun _ i _ => xs.length - (intOf i).toNat)
  case atStart => exact ⟨0, by omega, rfl, [], rfl, rfl, GrowL.start (Below.refl _ _)⟩
  case round =>
    obtain ⟨k, hk, rfl, zs, hzl, hzc, hgr⟩ := hrel
    by_cases hlt : k < xs.length
    · have hb := hgr.2.2
      obtain ⟨b, off, x, rfl, hbl, hx, hc, hok⟩ := (HX.out.later hb).at_ hlt
      have hfx := HF.out x (List.mem_of_getElem? hx)
      have hbs := hb.size
      have HC := Lib.hid (fun o => evClone_calls x (wr.alloc o) (Ev.keeps _ _ _ ((Below.refl _ _).alloc (Nat.le_refl _) o) hok) (fun r hr => (hfx.2.2.2.2.2.2.2.1 r hr).2.1) hfx.2.2.2.2.2.2.2.2)
      have HST := Lib.hid (fun (w1 w2 : World) (v' : Value) (y : Ev) (cs : Array Value) (hb : Below wr.heap.size wr w1) (hyc : y.c = x.c) (hyl : y.lies w1) (hyu : ∀ b, y.uses b → wr.heap.size ≤ b) (hcs : cs.toList = y.enc) (hown : w2.ownsRow w.heap.size 50 7 v' (k + 1) (zs.flatMap Ev.enc ++ cs.toList)) (hg : (w1.alloc (.cells cs 50)).grownBy w2 u3.ownBlock) (hat : v'.ownBlock = u3.ownBlock ∨ v'.ownBlock = some (w1.heap.size + 1)) => SortCopyRel.step hx hzl hzc hgr hb hyc hyl hyu hcs hown hg hat)
      have hown0 := hgr.1
      rw [hzl] at hown0
      have HO := Lib.hid (fun (w1 : World) (hb : Below wr.heap.size wr w1) => owns_below hown0 hb)
      obtain ⟨zf, hzf⟩ : ∃ zf, zf = zs.flatMap Ev.enc := ⟨_, rfl⟩
      rw [← hzf] at HO HST
      have HBA := Lib.hid (fun (o : Obj) (w1 : World) (h1 : Below (wr.alloc o).heap.size (wr.alloc o) w1) => (show Below wr.heap.size wr w1 from ((Below.refl _ _).alloc (Nat.le_refl _) _).trans (h1.mono (by simp))))
      have HXC := Lib.hid (show x.c = x.c from rfl)
      generalize x.c = xc at HC HST
      have d0 := hc 0 _ rfl; have d1 := hc 1 _ rfl; have d2 := hc 2 _ rfl; have d3 := hc 3 _ rfl; have d4 := hc 4 _ rfl; have d5 := hc 5 _ rfl; have d6 := hc 6 _ rfl
      obtain ⟨xid, xin, xout, xreg, xkind, xsp, xa, xcap, xrows⟩ := x
      simp only [Ev.enc, Nat.add_zero] at HC d0 d1 d2 d3 d4 d5 d6
      clear hc hx hok hgr hzc hzl hfx hown0 hzf HXC hb
      go_wp2_with fail
      refine (HC.out _).mono ?_
      rintro e w1 ⟨y, rfl, hyc, hyl, hyu, hyb⟩
      have hbw := HBA.out _ _ hyb
      have hs1 := hbw.size
      have HO1 := Lib.hid (HO.out _ hbw)
      have HY := Lib.hid (fun w2 v' cs => HST.out w1 w2 v' y cs hbw hyc hyl (fun b hu => by have := hyu b hu; simp at this; omega))
      obtain ⟨yid, yin, yout, yreg, ykind, ysp, ya, ycap, yrows⟩ := y
      simp only [Ev.enc] at HY ⊢
      clear hyc hyl hyu hyb hbw HC HO HST HBA d0 d1 d2 d3 d4 d5 d6
      go_wp2_with (at_builtin; refine wpList_append_at _ _ rfl (.tmp 12) (.tmp 15) 24 rfl w.heap.size 50 j0 _ 7 88 Tryz.underlying24 JI.out J0.out J1.out J2.out rfl (by decide) _ _ _ rfl HO1.out _ rfl rfl rfl ?h1 ?h63 ?hb ?hbase ?_)
      case h1 => first | exact ⟨rfl, rfl, rfl, rfl, rfl, rfl, rfl⟩ | (intro u hu; simp at hu; rcases hu with rfl | rfl | rfl | rfl | rfl | rfl | rfl <;> rfl)
      case h63 => unfold maxLen; omega
      case hb => omega
      case hbase => omega
      intro v' w2 hown' hgrow hat
      have R := Lib.hid (HY.out w2 v' _ rfl hown' hgrow hat)
      clear hown' hgrow hat
      go_wp2_with fail
      go_roundw
      case rel => exact ⟨k + 1, by omega, by go_num, R.out⟩
      case measure => simp [intOf]; omega
    · obtain rfl : k = xs.length := by omega
      have HS := Lib.hid (sortEvs_calls w.heap.size w u3 zs wr hgr (by omega) (Nat.le_refl _))
      obtain ⟨av, cv, rfl, _⟩ := GrowL.slice (k := 7) (enc := Ev.enc) (fun _ => rfl) hgr
      have HZ := Lib.hid hzc
      clear hgr hzc hzl
      go_wp2_with fail
      refine HS.out.mono ?_
      rintro e w1 ⟨rfl, ys, hg1, hp, hs⟩
      have HF2 := Lib.hid (HQ.out _ ys zs w1 hg1 hp hs HZ.out)
      clear hg1 hp hs HS
      go_wp2_with fail
      exact HF2.out
end Go.Proofs.YtnlnmbcaongehaaGreatDoor
