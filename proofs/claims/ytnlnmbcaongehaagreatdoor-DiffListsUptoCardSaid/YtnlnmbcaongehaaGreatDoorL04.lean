/- The contracts of the reference's put and Events: the IDs of two documents, ascending. The contract of the reference's Events. The contract of the reference's Comments. (printed by gen_refkeys.py) The reference's lists of keys, built by insertion, are the program's ones, sorted and compacted. -/
import Derived.Deep.RegionLaw
import Derived.Laws.OwnMore
import Derived.Test.YtnlnmbcaongehaaGreatDoorBase09
import Derived.Test.YtnlnmbcaongehaaGreatDoorL03
import Derived.Test.YtnlnmbcaongehaaGreatDoorBase05
import Derived.Test.YtnlnmbcaongehaaGreatDoorBase04
import Derived.Test.YtnlnmbcaongehaaGreatDoorBase02
import Derived.Test.YtnlnmbcaongehaaGreatDoorBase01
import Derived.Test.YtnlnmbcaongehaaGreatDoorBase00
import Derived.Test.YtnlnmbcaongehaaGreatDoorBase03
import Derived.Test.YtnlnmbcaongehaaGreatDoorBase07
import Derived.Test.YtnlnmbcaongehaaGreatDoorBase06
import Derived.Test.YtnlnmbcaongehaaGreatDoorL00
set_option linter.unusedVariables false
set_option linter.unusedSimpArgs false
namespace Go.Proofs.YtnlnmbcaongehaaGreatDoor
open Go.RowKit
theorem putL_len (id : Int) : ∀ zs : List Int, zs.length ≤ (putL zs id).length ∧ (putL zs id).length ≤ zs.length + 1
  | [] => by simp [putL]
  | z :: l => by
    have := putL_len id l
    unfold putL
    repeat' split
    all_goals simp only [List.length_cons]; omega
theorem putL_less (zs : List Int) (id : Int) (k : Nat) (z : Int) (h : zs[k]? = some z) (hz : z < id) (hp : zs.take k ++ putL (zs.drop k) id = putL zs id) : zs.take (k + 1) ++ putL (zs.drop (k + 1)) id = putL zs id := by
  rw [← hp, drop_at zs k z h, putL, if_pos hz, List.take_add_one, h, List.append_assoc]
  rfl
theorem putL_eq (zs : List Int) (id : Int) (k : Nat) (h : zs[k]? = some id) (hp : zs.take k ++ putL (zs.drop k) id = putL zs id) : putL zs id = zs := by
  rw [← hp, drop_at zs k id h, putL, if_neg (by omega), if_pos rfl, ← drop_at zs k id h, List.take_append_drop]
theorem putL_new (zs : List Int) (id : Int) (k : Nat) (h : ∀ z, zs[k]? = some z → id < z) (hp : zs.take k ++ putL (zs.drop k) id = putL zs id) : putL zs id = zs.take k ++ [id] ++ zs.drop k := by
  rw [← hp]
  cases hz : zs[k]? with
  | none =>
    rw [List.drop_eq_nil_of_le (by simpa using hz)]
    simp [putL]
  | some z =>
    have := h z hz
    rw [drop_at zs k z hz, putL, if_neg (by omega), if_neg (by omega)]
    simp
/-- Where a source of append lies: nowhere, or at an address. -/
def Src (w : World) (v : Value) (m : Nat) (news : List Value) : Prop := (v = .slice none 0 0 ∧ m = 0 ∧ news = []) ∨ ∃ ad c, v = .slice (some ad) m c ∧ ∀ j u, news[j]? = some u → w.cell? (ad.add j) = some u
theorem step_src {P : Program} {ops : Array Oper} {o : Oper} {a : Act} {w : World} {K : Act → World → Prop} {Q : Exit → Act → World → Prop} {E : Prop} (hgd : o.guard = none) (s x : Operand) (t : TypeId)
    (ho : o.op = .call { callee := .builtin .append, args := #[s, x], argTypes := #[t, t] })
    (base : Nat) (e : TypeId) (i : TypeInfo) (z : Value) (size bytes : Nat) (ht : P.underlying t = some (.slice e)) (hi : P.info? e = some i) (hz : i.zero = some z)
    (hsize : i.size = size) (hby : i.bytes = bytes) (hzs : z.cells.size = size) (hsz : 0 < size)
    (v : Value) (n : Nat) (xs : List Value) (hs : a.eval s = v) (hown : w.ownsRow base e size v n xs)
    (src : Value) (m : Nat) (news : List Value) (hx : a.eval x = src) (hsrc : Src w src m news) (hl : news.length = m * size) (h1 : ∀ u ∈ news, u.oneCell' = true)
    (h63 : n + m ≤ maxLen) (hbytes : (n + m) * bytes ≤ 140737488355328) (hbase : base ≤ w.heap.size)
    (h : ∀ v' w', w'.ownsRow base e size v' (n + m) (xs ++ news) → w.grownBy w' v.ownBlock → K (a.put o.dst v') w') :
    if Region.wanted o (yielded ops a.tmps) = true then Oper.wp P o a w K Q else E := by
  have hw : Region.wanted o (yielded ops a.tmps) = true := by simp [Region.wanted, hgd]
  rw [if_pos hw]
  rcases hsrc with ⟨hn, rfl, rfl⟩ | ⟨ad, c, hn, hc⟩
  · subst hn
    have hr := run_append_owned_none (P := P) w base t o.type e i size ht hi v n xs hown
    unfold Oper.wp execOp
    simp only [ho, resolve, invoke, builtin, Sem.run_bind, Sem.run_pure, Result.andThen_ok, List.map_toArray, List.map_cons, List.map_nil, hs, hx, hr]
    exact h v w (by simpa using hown) ⟨rfl, rfl, rfl, Nat.le_refl _, fun _ _ _ => rfl⟩
  · exact wp_append_own w s x t ho base e i z size bytes ht hi hz hsize hby hzs hsz v n xs hs hown ad m c news (hx.trans hn) hl hc h1 h63 hbytes hbase fun v' w' h2 h3 _ => h v' w' h2 h3
theorem ints_one (zs : List Int) : ∀ u ∈ zs.map (Value.int .i64), u.oneCell' = true := by
  intro u hu
  obtain ⟨z, _, rfl⟩ := List.mem_map.1 hu
  rfl
theorem IntsV.form {w : World} {v : Value} {zs : List Int} (h : IntsV w v zs) : ∃ a cap, v = .slice a zs.length cap ∧ Ints w a zs := by
  rcases h with ⟨rfl, rfl⟩ | ⟨b, off, cap, rfl, h2, h3, _, h4⟩
  · exact ⟨none, 0, rfl, .inl rfl⟩
  · exact ⟨_, cap, rfl, h4⟩
theorem IntsB.form {B : Nat} {w : World} {v : Value} {zs : List Int} (h : IntsB B w v zs) : ∃ a cap, v = .slice a zs.length cap ∧ Ints w a zs := h.1.form
def PutPost (B : Nat) (zs : List Int) (w : World) (e : Ending) (w' : World) : Prop := ∃ v, e = .returned v ∧ IntsB B w' v zs ∧ Below w.heap.size w w'
theorem src_new (w : World) (id : Int) : Src (w.alloc (.cells #[.int .i64 id] 2)) (.slice (some ⟨w.heap.size, 0, none⟩) 1 1) 1 [.int .i64 id] :=
  .inr ⟨_, _, rfl, fun j u hu => cells_new w #[.int .i64 id] 2 j u hu⟩
theorem src_kept {w w3 : World} {id : Int} {row : Option Nat} (h : (w.alloc (.cells #[.int .i64 id] 2)).grownBy w3 row) (g : Nat) (hg : row = none ∧ g = w.heap.size) : Src w3 (.slice (some ⟨g, 0, none⟩) 1 1) 1 [.int .i64 id] := by
  obtain ⟨rfl, rfl⟩ := hg
  refine .inr ⟨_, _, rfl, fun j u hu => ?_⟩
  have h0 := cells_new w #[.int .i64 id] 2 j u hu
  rw [Addr.add_lit] at h0 ⊢
  exact h.cell h0 (by simp)
set_option maxRecDepth 100000 in
set_option maxHeartbeats 6400000 in
theorem put_calls {B : Nat} (v : Value) (zs : List Int) (id : Int) (w : World) (hI : IntsB B w v zs) (hl : zs.length ≤ 8000000) (hB : B ≤ w.heap.size) :
    Calls Tryz.prog 104 #[v, .int .i64 id] w (PutPost B (putL zs id) w) := by
  obtain ⟨j0, hj, hy0, hy1, hy2⟩ := info_parts Tryz.info2
  have JI := Lib.hid hj; have J0 := Lib.hid hy0; have J1 := Lib.hid hy1; have J2 := Lib.hid hy2
  clear hj hy0 hy1 hy2
  have mixed : Tryz.prog.follows Departure.mixedOrders = true := by kernel_rfl
  have HV0 := Lib.hid hI
  have HBW := Lib.hid hB
  clear hB
  replace hI := hI.1
  have H0 := Lib.hid (show zs.take 0 ++ putL (zs.drop 0) id = putL zs id by simp)
  have hD : Below w.heap.size w w.drew := (Below.refl _ _).drew
  have HDA := Lib.hid (fun o => (hD.alloc hD.size o : Below w.heap.size w (w.drew.alloc o)))
  have hb0 : Below w.heap.size w w := Below.refl _ _
  have FACTS := fun (k : Nat) (hk : k ≤ zs.length) (hn : ∀ z, zs[k]? = some z → id < z) (hp : zs.take k ++ putL (zs.drop k) id = putL zs id) =>
    (show (putL zs id).length = zs.length + 1 ∧ [] ++ (zs.take k).map (Value.int .i64) ++ [.int .i64 id] ++ (zs.drop k).map (Value.int .i64) = (putL zs id).map (Value.int .i64) by
      rw [putL_new zs id k hn hp]
      constructor
      · simp; omega
      · simp)
  rcases hI with ⟨rfl, rfl⟩ | ⟨b, off, cap, rfl, hbl, hcap, hcm, hIn⟩
  · have O3 := Lib.hid (show ∀ u ∈ [Value.int .i64 id], u.oneCell' = true by intro u hu; simp at hu; subst hu; rfl)
    have M2 := Lib.hid (show 0 + 1 ≤ maxLen by unfold maxLen; omega)
    have M3 := Lib.hid (show 0 + 1 + 0 ≤ maxLen by unfold maxLen; omega)
    clear FACTS H0
    rw [show putL [] id = [id] from rfl]
    go_enter Tryz.func104, Tryz.ntmps104
    go_wp2_with fail
    refine wp_loop_rounds 1 ?_
    rw [rounds_succ]
    go_wp2_with fail
    go_region_law_o (first
      | (refine step_src rfl (.tmp 38) (.tmp 40) 85 rfl w.heap.size 2 j0 _ 1 8 Tryz.underlying85 JI.out J0.out J1.out J2.out rfl (by decide) (.slice none 0 0) 0 [] (by go_simp) (World.ownsRow_nil _ _ _ _) (.slice (some ⟨w.heap.size, 0, none⟩) 1 1) 1 [.int .i64 id] (by go_simp) (src_new w.drew id) rfl O3.out M2.out (by omega) (HDA.out _).size ?_; intro v2 w4 hown2 hgrow2; have hb4 : Below w.heap.size w w4 := (HDA.out _).grown hgrow2 (HDA.out _).size (by intro j hj; simp [Value.ownBlock] at hj); have HO2 := Lib.hid hown2; have HLT2 := Lib.hid (fun j hj => (hown2.lt j hj).1); have HS4 := Lib.hid hb4.size; clear hown2 hgrow2)
      | (refine step_src rfl (.tmp 41) (.tmp 44) 85 rfl w.heap.size 2 j0 _ 1 8 Tryz.underlying85 JI.out J0.out J1.out J2.out rfl (by decide) v2 _ _ (by go_simp) HO2.out (.slice none 0 0) 0 [] (by go_simp) (.inl ⟨rfl, rfl, rfl⟩) rfl (by simp) M3.out (by omega) HS4.out ?_; intro v3 w5 hown3 hgrow3; have hb5 : Below w.heap.size w w5 := hb4.grown hgrow3 HS4.out HLT2.out; have HO3 := Lib.hid hown3; clear hown3 hgrow3))
    all_goals
      have hown := HO3.out
      have HV := Lib.hid (IntsB.of_owns (zs := [id]) HBW.out hown)
      clear hown HO3
      obtain ⟨a5, c5, hv5, _⟩ := HV.out.form
      subst hv5
      go_wp2_with fail
      go_ret
      exact ⟨_, rfl, HV.out, hb5⟩
  · have HIN := Lib.hid hIn
    clear hIn
    go_enter Tryz.func104, Tryz.ntmps104
    go_wp2_with fail
    go_loop [5] (fun i => ∃ k : Nat, k ≤ zs.length ∧ i = .int .i64 k ∧ zs.take k ++ putL (zs.drop k) id = putL zs id) (fun i => zs.length - (intOf i).toNat)
    case atStart => exact ⟨0, by omega, rfl, H0.out⟩
    case round =>
      obtain ⟨k, hk, rfl, hp⟩ := hrel
      have HSS := Lib.hid (fun (hx : ∀ z, zs[k]? = some z → id < z) => FACTS k hk hx hp)
      have HS1 := Lib.hid (fun (w1 : World) (h : Below w.heap.size w w1) => (show Src w1 (.slice (some ⟨b, off, none⟩) k cap) k ((zs.take k).map (Value.int .i64)) from .inr ⟨_, _, rfl, fun j u hu => by
        rw [Addr.add_lit]
        refine (HIN.out.later h).cells j u ?_
        rw [← List.take_append_drop k zs, List.map_append, List.getElem?_append_left (List.getElem?_eq_some_iff.1 hu).1]
        exact hu⟩))
      obtain ⟨A, hA, hsA⟩ : ∃ A : Addr, (if cap = k then some (⟨b, off, none⟩ : Addr) else some ⟨b, off + k, none⟩) = some A ∧ Hid (∀ w1, Below w.heap.size w w1 → Src w1 (.slice (some A) (zs.length - k) (cap - k)) (zs.length - k) ((zs.drop k).map (Value.int .i64))) := by
        by_cases hq : cap = k
        · refine ⟨⟨b, off, none⟩, by simp [hq], fun w1 h => .inr ⟨_, _, rfl, fun j u hu => ?_⟩⟩
          have := (List.getElem?_eq_some_iff.1 hu).1
          simp at this
          omega
        · refine ⟨⟨b, off + k, none⟩, by simp [hq], fun w1 h => .inr ⟨_, _, rfl, fun j u hu => ?_⟩⟩
          rw [Addr.add_lit, show off + k + j = off + (k + j) by omega]
          refine (HIN.out.later h).cells (k + j) u ?_
          rw [List.getElem?_map] at hu ⊢
          rw [List.getElem?_drop] at hu
          exact hu
      have HS2 := hsA
      have L1 := Lib.hid (show ((zs.take k).map (Value.int .i64)).length = k * 1 by simp; omega)
      have L2 := Lib.hid (show ((zs.drop k).map (Value.int .i64)).length = (zs.length - k) * 1 by simp)
      have O1 := Lib.hid (ints_one (zs.take k))
      have O2 := Lib.hid (ints_one (zs.drop k))
      have M1 := Lib.hid (show 0 + k ≤ maxLen by unfold maxLen; omega)
      have M2 := Lib.hid (show 0 + k + 1 ≤ maxLen by unfold maxLen; omega)
      have M3 := Lib.hid (show 0 + k + 1 + (zs.length - k) ≤ maxLen by unfold maxLen; omega)
      have HNL := Lib.hid (show Value.ownBlock (.slice none 0 0) = none ∧ w.heap.size = w.drew.heap.size from ⟨rfl, rfl⟩)
      have O3 := Lib.hid (show ∀ u ∈ [Value.int .i64 id], u.oneCell' = true by intro u hu; simp at hu; subst hu; rfl)
      have hkc : k ≤ cap := by omega
      have hkn : (k : Int) ≤ (zs.length : Int) := by omega
      clear H0
      by_cases hlt : k < zs.length
      · obtain ⟨b', off', z, he, _, hz, hc, _⟩ := HIN.out.at_ hlt
        simp only [Option.some.injEq, Addr.mk.injEq, and_true] at he
        obtain ⟨rfl, rfl⟩ := he
        have d0 := hc 0 _ rfl
        simp only [Nat.add_zero, Nat.mul_one] at d0
        rcases (show z < id ∨ (id ≤ z ∧ decide (z < id) = false) by by_cases h : z < id <;> simp [h]; omega) with hlz | ⟨hlz, hld⟩
        · have HP := Lib.hid (putL_less zs id k z hz hlz hp)
          clear hp hc hz HSS FACTS
          go_wp2_with fail
          go_round
          case rel => exact ⟨k + 1, by omega, by go_num, HP.out⟩
          case measure => simp [intOf]; omega
        · rcases (show z = id ∨ (id < z ∧ (z == id) = false) by by_cases h : z = id <;> simp [h]; omega) with rfl | ⟨hgt, hne⟩
          · have HP := Lib.hid (putL_eq zs z k hz hp)
            clear hp hc hz HSS FACTS
            go_wp2_with fail
            go_ret
            exact ⟨_, rfl, by rw [HP.out]; exact HV0.out, hb0⟩
          · have hF := HSS.out (fun y hy => by rw [hz] at hy; obtain rfl : z = y := by simpa using hy
                                               exact hgt)
            have HLEN := Lib.hid hF.1
            have HJ := Lib.hid hF.2
            clear hp hc hz HSS FACTS hF
            go_wp2_with fail
            go_region_law_o (first
              | (refine step_src rfl (.tmp 34) (.tmp 37) 85 rfl w.heap.size 2 j0 _ 1 8 Tryz.underlying85 JI.out J0.out J1.out J2.out rfl (by decide) (.slice none 0 0) 0 [] (by go_simp) (World.ownsRow_nil _ _ _ _) (.slice (some ⟨b, off, none⟩) k cap) k ((zs.take k).map (Value.int .i64)) (by go_simp) (HS1.out _ hD) L1.out O1.out M1.out (by omega) hD.size ?_; intro v1 w3 hown1 hgrow1; have hb3 : Below w.heap.size w w3 := hD.grown hgrow1 hD.size (by intro j hj; simp [Value.ownBlock] at hj); have HO1 := Lib.hid hown1; have HLT1 := Lib.hid (fun j hj => (hown1.lt j hj).1); have HS3 := Lib.hid hb3.size; clear hown1 hgrow1)
              | (refine step_src rfl (.tmp 34) (.tmp 37) 85 rfl w.heap.size 2 j0 _ 1 8 Tryz.underlying85 JI.out J0.out J1.out J2.out rfl (by decide) (.slice none 0 0) 0 [] (by go_simp) (World.ownsRow_nil _ _ _ _) (.slice (some ⟨b, off, none⟩) k cap) k ((zs.take k).map (Value.int .i64)) (by go_simp) (HS1.out _ (HDA.out _)) L1.out O1.out M1.out (by omega) (HDA.out _).size ?_; intro v1 w3 hown1 hgrow1; have hb3 : Below w.heap.size w w3 := (HDA.out _).grown hgrow1 (HDA.out _).size (by intro j hj; simp [Value.ownBlock] at hj); have HO1 := Lib.hid hown1; have HSK := Lib.hid (src_kept (w := w.drew) hgrow1 w.heap.size HNL.out); have HLT1 := Lib.hid (fun j hj => (hown1.lt j hj).1); have HS3 := Lib.hid hb3.size; clear hown1 hgrow1)
              | (refine step_src rfl (.tmp 38) (.tmp 40) 85 rfl w.heap.size 2 j0 _ 1 8 Tryz.underlying85 JI.out J0.out J1.out J2.out rfl (by decide) v1 _ _ (by go_simp) HO1.out (.slice (some ⟨w.heap.size, 0, none⟩) 1 1) 1 [.int .i64 id] (by go_simp) HSK.out rfl O3.out M2.out (by omega) HS3.out ?_; intro v2 w4 hown2 hgrow2; have hb4 : Below w.heap.size w w4 := hb3.grown hgrow2 HS3.out HLT1.out; have HO2 := Lib.hid hown2; have HLT2 := Lib.hid (fun j hj => (hown2.lt j hj).1); have HS4 := Lib.hid hb4.size; clear hown2 hgrow2)
              | (refine step_src rfl (.tmp 38) (.tmp 40) 85 rfl w.heap.size 2 j0 _ 1 8 Tryz.underlying85 JI.out J0.out J1.out J2.out rfl (by decide) v1 _ _ (by go_simp) (HO1.out.alloc _) (.slice (some ⟨w3.heap.size, 0, none⟩) 1 1) 1 [.int .i64 id] (by go_simp) (src_new w3 id) rfl O3.out M2.out (by omega) (hb3.alloc HS3.out _).size ?_; intro v2 w4 hown2 hgrow2; have hb4 : Below w.heap.size w w4 := (hb3.alloc HS3.out _).grown hgrow2 (hb3.alloc HS3.out _).size HLT1.out; have HO2 := Lib.hid hown2; have HLT2 := Lib.hid (fun j hj => (hown2.lt j hj).1); have HS4 := Lib.hid hb4.size; clear hown2 hgrow2)
              | (refine step_src rfl (.tmp 41) (.tmp 44) 85 rfl w.heap.size 2 j0 _ 1 8 Tryz.underlying85 JI.out J0.out J1.out J2.out rfl (by decide) v2 _ _ (by go_simp) HO2.out (.slice (some A) (zs.length - k) (cap - k)) (zs.length - k) ((zs.drop k).map (Value.int .i64)) (by go_simp) (HS2.out _ hb4) L2.out O2.out M3.out (by omega) HS4.out ?_; intro v3 w5 hown3 hgrow3; have hb5 : Below w.heap.size w w5 := hb4.grown hgrow3 HS4.out HLT2.out; have HO3 := Lib.hid hown3; clear hown3 hgrow3))
            all_goals
              have hown := HO3.out
              rw [HJ.out, show 0 + k + 1 + (zs.length - k) = (putL zs id).length by rw [HLEN.out]; omega] at hown
              have HV := Lib.hid (IntsB.of_owns HBW.out hown)
              clear hown HO3
              obtain ⟨a5, c5, hv5, _⟩ := HV.out.form
              subst hv5
              go_wp2_with fail
              go_ret
              exact ⟨_, rfl, HV.out, hb5⟩
      · have hke : k = zs.length := by omega
        have hF := HSS.out (fun y hy => by rw [hke] at hy; simp at hy)
        have hkd : decide ((k : Int) < (zs.length : Int)) = false := by simp; omega
        have hkd2 : decide (k < zs.length) = false := by simp; omega
        have hge : zs.length ≤ k := by omega
        have HLEN := Lib.hid hF.1
        have HJ := Lib.hid hF.2
        clear hp HSS FACTS hF hke
        go_wp2_with fail
        go_region_law_o (first
          | (refine step_src rfl (.tmp 34) (.tmp 37) 85 rfl w.heap.size 2 j0 _ 1 8 Tryz.underlying85 JI.out J0.out J1.out J2.out rfl (by decide) (.slice none 0 0) 0 [] (by go_simp) (World.ownsRow_nil _ _ _ _) (.slice (some ⟨b, off, none⟩) k cap) k ((zs.take k).map (Value.int .i64)) (by go_simp) (HS1.out _ hD) L1.out O1.out M1.out (by omega) hD.size ?_; intro v1 w3 hown1 hgrow1; have hb3 : Below w.heap.size w w3 := hD.grown hgrow1 hD.size (by intro j hj; simp [Value.ownBlock] at hj); have HO1 := Lib.hid hown1; have HLT1 := Lib.hid (fun j hj => (hown1.lt j hj).1); have HS3 := Lib.hid hb3.size; clear hown1 hgrow1)
          | (refine step_src rfl (.tmp 34) (.tmp 37) 85 rfl w.heap.size 2 j0 _ 1 8 Tryz.underlying85 JI.out J0.out J1.out J2.out rfl (by decide) (.slice none 0 0) 0 [] (by go_simp) (World.ownsRow_nil _ _ _ _) (.slice (some ⟨b, off, none⟩) k cap) k ((zs.take k).map (Value.int .i64)) (by go_simp) (HS1.out _ (HDA.out _)) L1.out O1.out M1.out (by omega) (HDA.out _).size ?_; intro v1 w3 hown1 hgrow1; have hb3 : Below w.heap.size w w3 := (HDA.out _).grown hgrow1 (HDA.out _).size (by intro j hj; simp [Value.ownBlock] at hj); have HO1 := Lib.hid hown1; have HSK := Lib.hid (src_kept (w := w.drew) hgrow1 w.heap.size HNL.out); have HLT1 := Lib.hid (fun j hj => (hown1.lt j hj).1); have HS3 := Lib.hid hb3.size; clear hown1 hgrow1)
          | (refine step_src rfl (.tmp 38) (.tmp 40) 85 rfl w.heap.size 2 j0 _ 1 8 Tryz.underlying85 JI.out J0.out J1.out J2.out rfl (by decide) v1 _ _ (by go_simp) HO1.out (.slice (some ⟨w.heap.size, 0, none⟩) 1 1) 1 [.int .i64 id] (by go_simp) HSK.out rfl O3.out M2.out (by omega) HS3.out ?_; intro v2 w4 hown2 hgrow2; have hb4 : Below w.heap.size w w4 := hb3.grown hgrow2 HS3.out HLT1.out; have HO2 := Lib.hid hown2; have HLT2 := Lib.hid (fun j hj => (hown2.lt j hj).1); have HS4 := Lib.hid hb4.size; clear hown2 hgrow2)
          | (refine step_src rfl (.tmp 38) (.tmp 40) 85 rfl w.heap.size 2 j0 _ 1 8 Tryz.underlying85 JI.out J0.out J1.out J2.out rfl (by decide) v1 _ _ (by go_simp) (HO1.out.alloc _) (.slice (some ⟨w3.heap.size, 0, none⟩) 1 1) 1 [.int .i64 id] (by go_simp) (src_new w3 id) rfl O3.out M2.out (by omega) (hb3.alloc HS3.out _).size ?_; intro v2 w4 hown2 hgrow2; have hb4 : Below w.heap.size w w4 := (hb3.alloc HS3.out _).grown hgrow2 (hb3.alloc HS3.out _).size HLT1.out; have HO2 := Lib.hid hown2; have HLT2 := Lib.hid (fun j hj => (hown2.lt j hj).1); have HS4 := Lib.hid hb4.size; clear hown2 hgrow2)
          | (refine step_src rfl (.tmp 41) (.tmp 44) 85 rfl w.heap.size 2 j0 _ 1 8 Tryz.underlying85 JI.out J0.out J1.out J2.out rfl (by decide) v2 _ _ (by go_simp) HO2.out (.slice (some A) (zs.length - k) (cap - k)) (zs.length - k) ((zs.drop k).map (Value.int .i64)) (by go_simp) (HS2.out _ hb4) L2.out O2.out M3.out (by omega) HS4.out ?_; intro v3 w5 hown3 hgrow3; have hb5 : Below w.heap.size w w5 := hb4.grown hgrow3 HS4.out HLT2.out; have HO3 := Lib.hid hown3; clear hown3 hgrow3))
        all_goals
          have hown := HO3.out
          rw [HJ.out, show 0 + k + 1 + (zs.length - k) = (putL zs id).length by rw [HLEN.out]; omega] at hown
          have HV := Lib.hid (IntsB.of_owns HBW.out hown)
          clear hown HO3
          obtain ⟨a5, c5, hv5, _⟩ := HV.out.form
          subst hv5
          go_wp2_with fail
          go_ret
          exact ⟨_, rfl, HV.out, hb5⟩
end Go.Proofs.YtnlnmbcaongehaaGreatDoor
namespace Go.Proofs.YtnlnmbcaongehaaGreatDoor
open Go.RowKit
set_option maxRecDepth 100000 in
set_option maxHeartbeats 3200000 in
theorem events_calls (d d' : Doc) (w : World) (hr : EvsAt w d.ea d.evs) (hr' : EvsAt w d'.ea d'.evs) (hl : d.evs.length ≤ 4000000) (hl' : d'.evs.length ≤ 4000000) :
    Calls Tryz.prog 48 #[.agg d.enc.toArray, .agg d'.enc.toArray] w (PutPost w.heap.size (insAll (insAll [] d.evs) d'.evs) w) := by
  have HEV := Lib.hid hr
  have HEV' := Lib.hid hr'
  have HQ := Lib.hid (fun (v : Value) (w' : World) (h : IntsB w.heap.size w' v (insAll (insAll [] d.evs) d'.evs)) (hb : Below w.heap.size w w') => (show PutPost w.heap.size (insAll (insAll [] d.evs) d'.evs) w (.returned v) w' from ⟨v, rfl, h, hb⟩))
  generalize PutPost w.heap.size (insAll (insAll [] d.evs) d'.evs) w = Q at *
  obtain ⟨title, lang, rate, drop, last, ra, rc, regs, ea, ec, evs, ca, cc, cms⟩ := d
  obtain ⟨title', lang', rate', drop', last', ra', rc', regs', ea', ec', evs', ca', cc', cms'⟩ := d'
  simp only at HEV HEV' hl hl' HQ
  simp only [Doc.enc]
  have HZ := Lib.hid (show insAll [] (evs.drop 0) = insAll [] evs from rfl)
  generalize insAll [] evs = Z1 at *
  have HZ2 := Lib.hid (show insAll Z1 (evs'.drop 0) = insAll Z1 evs' from rfl)
  generalize insAll Z1 evs' = Z2 at *
  clear hr hr'
  generalize hds : #[Value.string title, .string lang, .int .u8 rate, .bool drop, .int .i64 last, .slice ra regs.length rc, .slice ea evs.length ec, .slice ca cms.length cc] = ds at *
  generalize hes : #[Value.string title', .string lang', .int .u8 rate', .bool drop', .int .i64 last', .slice ra' regs'.length rc', .slice ea' evs'.length ec', .slice ca' cms'.length cc'] = es at *
  have f6 := box2_fst w ds es 27 27 6 (.slice ea evs.length ec) (by rw [← hds]; rfl)
  have g6 := box2_snd w ds es 27 27 6 (.slice ea' evs'.length ec') (by rw [← hes]; rfl)
  have HB := Lib.hid (fun (w1 : World) (h : Below (w.heap.size + 2) ((w.alloc (.cells ds 27)).alloc (.cells es 27)) w1) => box2_below h)
  have hb0 : Below (w.heap.size + 2) ((w.alloc (.cells ds 27)).alloc (.cells es 27)) ((w.alloc (.cells ds 27)).alloc (.cells es 27)) := Below.refl _ _
  have hsz : ((w.alloc (.cells ds 27)).alloc (.cells es 27)).heap.size = w.heap.size + 2 := by simp
  generalize hW0 : (w.alloc (.cells ds 27)).alloc (.cells es 27) = W0 at *
  have HW0 := Lib.hid hW0
  have HLT := Lib.hid (fun (w1 : World) (h : Below (w.heap.size + 2) W0 w1) => (show w.heap.size + 2 ≤ w1.heap.size by have := h.size; rw [hsz] at this; exact this))
  have HT0 := Lib.hid (fun (w2 w3 : World) (h : Below (w.heap.size + 2) W0 w2) (h3 : Below w2.heap.size w2 w3) => h.trans (h3.mono (HLT.out _ h)))
  clear hW0 hsz
  go_enter Tryz.func48, Tryz.ntmps48
  subst hds
  subst hes
  go_wp2_with fail
  rw [HW0.out]
  go_loopw [5, 13] (fun v i wr => ∃ (k : Nat) (zs : List Int), k ≤ evs.length ∧ i = .int .i64 k ∧ IntsB w.heap.size wr v zs ∧ zs.length ≤ k ∧ insAll zs (evs.drop k) = Z1 ∧ Below (w.heap.size + 2) W0 wr) (fun _ i _ => evs.length - (intOf i).toNat)
  case atStart => exact ⟨0, [], by omega, rfl, ⟨.inl ⟨rfl, rfl⟩, fun b hb => by simp [Value.ownBlock] at hb⟩, by simp, HZ.out, hb0⟩
  case round =>
    obtain ⟨k, zs, hk, rfl, hI, hzl, hp, hb⟩ := hrel
    clear HZ hb0
    by_cases hlt : k < evs.length
    · obtain ⟨b, off, x, he, hbl, hxk, hc, _⟩ := (HEV.out.later (HB.out _ hb)).at_ hlt
      rw [drop_at evs k x hxk, insAll] at hp
      obtain ⟨xid, xin, xout, xreg, xkind, xsp, xa, xc, xrows⟩ := x
      have d0 := hc 0 _ rfl; have d1 := hc 1 _ rfl; have d2 := hc 2 _ rfl; have d3 := hc 3 _ rfl; have d4 := hc 4 _ rfl; have d5 := hc 5 _ rfl; have d6 := hc 6 _ rfl
      simp only [Nat.add_zero] at d0 d1 d2 d3 d4 d5 d6 hp
      subst he
      have HBA := Lib.hid (fun o => (hb.alloc (HLT.out _ hb) o : Below (w.heap.size + 2) W0 (wr.alloc o)))
      have HPU := Lib.hid (fun o => put_calls _ zs xid (wr.alloc o) (hI.later ((Below.refl wr.heap.size wr).alloc (Nat.le_refl _) o)) (by omega) (by have := HLT.out _ hb; simp; omega))
      have hln := putL_len xid zs
      have HP := Lib.hid hp
      clear hc hxk hp hI
      generalize putL zs xid = ys at *
      go_wp2_with fail
      refine (HPU.out _).mono ?_
      rintro e w5 ⟨v5, rfl, hI5, hb5⟩
      have hc5 := HT0.out _ _ (HBA.out _) hb5
      have HI5 := Lib.hid hI5
      clear hb5 hI5 HPU
      go_wp2_with fail
      go_roundw
      case rel => exact ⟨k + 1, ys, by omega, by go_num, HI5.out, by omega, HP.out, hc5⟩
      case measure => simp [intOf]; omega
    · obtain rfl : k = evs.length := by omega
      rw [List.drop_length, insAll] at hp
      subst hp
      have HBB := Lib.hid hb
      have HII := Lib.hid hI
      clear hlt hk hI
      go_wp2_with fail
      obtain ⟨wo, rfl⟩ : ∃ wo : World, wo = wr := ⟨_, rfl⟩
      clear hb
      go_loopw [5, 25] (fun v i wr => ∃ (k : Nat) (ys : List Int), k ≤ evs'.length ∧ i = .int .i64 k ∧ IntsB w.heap.size wr v ys ∧ ys.length ≤ evs.length + k ∧ insAll ys (evs'.drop k) = Z2 ∧ Below (w.heap.size + 2) W0 wr) (fun _ i _ => evs'.length - (intOf i).toNat)
      case atStart => exact ⟨0, zs, by omega, rfl, HII.out, by omega, HZ2.out, HBB.out⟩
      case round =>
        clear hzl
        obtain ⟨k, zs', hk, rfl, hI, hzl, hp, hb⟩ := hrel
        clear HZ2 HBB HII
        by_cases hlt : k < evs'.length
        · obtain ⟨b, off, x, he, hbl, hxk, hc, _⟩ := (HEV'.out.later (HB.out _ hb)).at_ hlt
          rw [drop_at evs' k x hxk, insAll] at hp
          obtain ⟨xid, xin, xout, xreg, xkind, xsp, xa, xc, xrows⟩ := x
          have d0 := hc 0 _ rfl; have d1 := hc 1 _ rfl; have d2 := hc 2 _ rfl; have d3 := hc 3 _ rfl; have d4 := hc 4 _ rfl; have d5 := hc 5 _ rfl; have d6 := hc 6 _ rfl
          simp only [Nat.add_zero] at d0 d1 d2 d3 d4 d5 d6 hp
          subst he
          have HBA := Lib.hid (fun o => (hb.alloc (HLT.out _ hb) o : Below (w.heap.size + 2) W0 (wr.alloc o)))
          have HPU := Lib.hid (fun o => put_calls _ zs' xid (wr.alloc o) (hI.later ((Below.refl wr.heap.size wr).alloc (Nat.le_refl _) o)) (by omega) (by have := HLT.out _ hb; simp; omega))
          have hln := putL_len xid zs'
          have HP := Lib.hid hp
          clear hc hxk hp hI
          generalize putL zs' xid = ys at *
          go_wp2_with fail
          refine (HPU.out _).mono ?_
          rintro e w5 ⟨v5, rfl, hI5, hb5⟩
          have hc5 := HT0.out _ _ (HBA.out _) hb5
          have HI5 := Lib.hid hI5
          clear hb5 hI5 HPU
          go_wp2_with fail
          go_roundw
          case rel => exact ⟨k + 1, ys, by omega, by go_num, HI5.out, by omega, HP.out, hc5⟩
          case measure => simp [intOf]; omega
        · obtain rfl : k = evs'.length := by omega
          rw [List.drop_length, insAll] at hp
          subst hp
          have HFIN := Lib.hid (HQ.out _ _ hI (HB.out _ hb))
          obtain ⟨a5, c5, hv5, _⟩ := hI.form
          subst hv5
          clear hI
          go_wp2_with fail
          exact HFIN.out
end Go.Proofs.YtnlnmbcaongehaaGreatDoor
namespace Go.Proofs.YtnlnmbcaongehaaGreatDoor
open Go.RowKit
set_option maxRecDepth 100000 in
set_option maxHeartbeats 3200000 in
theorem refComments_calls (d d' : Doc) (w : World) (hr : CmsAt w d.ca d.cms) (hr' : CmsAt w d'.ca d'.cms) (hl : d.cms.length ≤ 4000000) (hl' : d'.cms.length ≤ 4000000) :
    Calls Tryz.prog 51 #[.agg d.enc.toArray, .agg d'.enc.toArray] w (PutPost w.heap.size (insAllC (insAllC [] d.cms) d'.cms) w) := by
  have HEV := Lib.hid hr
  have HEV' := Lib.hid hr'
  have HQ := Lib.hid (fun (v : Value) (w' : World) (h : IntsB w.heap.size w' v (insAllC (insAllC [] d.cms) d'.cms)) (hb : Below w.heap.size w w') => (show PutPost w.heap.size (insAllC (insAllC [] d.cms) d'.cms) w (.returned v) w' from ⟨v, rfl, h, hb⟩))
  generalize PutPost w.heap.size (insAllC (insAllC [] d.cms) d'.cms) w = Q at *
  obtain ⟨title, lang, rate, drop, last, ra, rc, regs, ea, ec, evs, ca, cc, cms⟩ := d
  obtain ⟨title', lang', rate', drop', last', ra', rc', regs', ea', ec', evs', ca', cc', cms'⟩ := d'
  simp only at HEV HEV' hl hl' HQ
  simp only [Doc.enc]
  have HZ := Lib.hid (show insAllC [] (cms.drop 0) = insAllC [] cms from rfl)
  generalize insAllC [] cms = Z1 at *
  have HZ2 := Lib.hid (show insAllC Z1 (cms'.drop 0) = insAllC Z1 cms' from rfl)
  generalize insAllC Z1 cms' = Z2 at *
  clear hr hr'
  generalize hds : #[Value.string title, .string lang, .int .u8 rate, .bool drop, .int .i64 last, .slice ra regs.length rc, .slice ea evs.length ec, .slice ca cms.length cc] = ds at *
  generalize hes : #[Value.string title', .string lang', .int .u8 rate', .bool drop', .int .i64 last', .slice ra' regs'.length rc', .slice ea' evs'.length ec', .slice ca' cms'.length cc'] = es at *
  have f6 := box2_fst w ds es 27 27 7 (.slice ca cms.length cc) (by rw [← hds]; rfl)
  have g6 := box2_snd w ds es 27 27 7 (.slice ca' cms'.length cc') (by rw [← hes]; rfl)
  have HB := Lib.hid (fun (w1 : World) (h : Below (w.heap.size + 2) ((w.alloc (.cells ds 27)).alloc (.cells es 27)) w1) => box2_below h)
  have hb0 : Below (w.heap.size + 2) ((w.alloc (.cells ds 27)).alloc (.cells es 27)) ((w.alloc (.cells ds 27)).alloc (.cells es 27)) := Below.refl _ _
  have hsz : ((w.alloc (.cells ds 27)).alloc (.cells es 27)).heap.size = w.heap.size + 2 := by simp
  generalize hW0 : (w.alloc (.cells ds 27)).alloc (.cells es 27) = W0 at *
  have HW0 := Lib.hid hW0
  have HLT := Lib.hid (fun (w1 : World) (h : Below (w.heap.size + 2) W0 w1) => (show w.heap.size + 2 ≤ w1.heap.size by have := h.size; rw [hsz] at this; exact this))
  have HT0 := Lib.hid (fun (w2 w3 : World) (h : Below (w.heap.size + 2) W0 w2) (h3 : Below w2.heap.size w2 w3) => h.trans (h3.mono (HLT.out _ h)))
  clear hW0 hsz
  go_enter Tryz.func51, Tryz.ntmps51
  subst hds
  subst hes
  go_wp2_with fail
  rw [HW0.out]
  go_loopw [5, 13] (fun v i wr => ∃ (k : Nat) (zs : List Int), k ≤ cms.length ∧ i = .int .i64 k ∧ IntsB w.heap.size wr v zs ∧ zs.length ≤ k ∧ insAllC zs (cms.drop k) = Z1 ∧ Below (w.heap.size + 2) W0 wr) (fun _ i _ => cms.length - (intOf i).toNat)
  case atStart => exact ⟨0, [], by omega, rfl, ⟨.inl ⟨rfl, rfl⟩, fun b hb => by simp [Value.ownBlock] at hb⟩, by simp, HZ.out, hb0⟩
  case round =>
    obtain ⟨k, zs, hk, rfl, hI, hzl, hp, hb⟩ := hrel
    clear HZ hb0
    by_cases hlt : k < cms.length
    · obtain ⟨b, off, x, he, hbl, hxk, hc, _⟩ := (HEV.out.later (HB.out _ hb)).at_ hlt
      rw [drop_at cms k x hxk, insAllC] at hp
      obtain ⟨xid, xev, xfrm, xtil, xau, xtx, xdn, xlo⟩ := x
      have d0 := hc 0 _ rfl; have d1 := hc 1 _ rfl; have d2 := hc 2 _ rfl; have d3 := hc 3 _ rfl; have d4 := hc 4 _ rfl; have d5 := hc 5 _ rfl; have d6 := hc 6 _ rfl; have d7 := hc 7 _ rfl
      simp only [Nat.add_zero] at d0 d1 d2 d3 d4 d5 d6 d7 hp
      subst he
      have HBA := Lib.hid (fun o => (hb.alloc (HLT.out _ hb) o : Below (w.heap.size + 2) W0 (wr.alloc o)))
      have HPU := Lib.hid (fun o => put_calls _ zs xid (wr.alloc o) (hI.later ((Below.refl wr.heap.size wr).alloc (Nat.le_refl _) o)) (by omega) (by have := HLT.out _ hb; simp; omega))
      have hln := putL_len xid zs
      have HP := Lib.hid hp
      clear hc hxk hp hI
      generalize putL zs xid = ys at *
      go_wp2_with fail
      refine (HPU.out _).mono ?_
      rintro e w5 ⟨v5, rfl, hI5, hb5⟩
      have hc5 := HT0.out _ _ (HBA.out _) hb5
      have HI5 := Lib.hid hI5
      clear hb5 hI5 HPU
      go_wp2_with fail
      go_roundw
      case rel => exact ⟨k + 1, ys, by omega, by go_num, HI5.out, by omega, HP.out, hc5⟩
      case measure => simp [intOf]; omega
    · obtain rfl : k = cms.length := by omega
      rw [List.drop_length, insAllC] at hp
      subst hp
      have HBB := Lib.hid hb
      have HII := Lib.hid hI
      clear hlt hk hI
      go_wp2_with fail
      obtain ⟨wo, rfl⟩ : ∃ wo : World, wo = wr := ⟨_, rfl⟩
      clear hb
      go_loopw [5, 25] (fun v i wr => ∃ (k : Nat) (ys : List Int), k ≤ cms'.length ∧ i = .int .i64 k ∧ IntsB w.heap.size wr v ys ∧ ys.length ≤ cms.length + k ∧ insAllC ys (cms'.drop k) = Z2 ∧ Below (w.heap.size + 2) W0 wr) (fun _ i _ => cms'.length - (intOf i).toNat)
      case atStart => exact ⟨0, zs, by omega, rfl, HII.out, by omega, HZ2.out, HBB.out⟩
      case round =>
        clear hzl
        obtain ⟨k, zs', hk, rfl, hI, hzl, hp, hb⟩ := hrel
        clear HZ2 HBB HII
        by_cases hlt : k < cms'.length
        · obtain ⟨b, off, x, he, hbl, hxk, hc, _⟩ := (HEV'.out.later (HB.out _ hb)).at_ hlt
          rw [drop_at cms' k x hxk, insAllC] at hp
          obtain ⟨xid, xev, xfrm, xtil, xau, xtx, xdn, xlo⟩ := x
          have d0 := hc 0 _ rfl; have d1 := hc 1 _ rfl; have d2 := hc 2 _ rfl; have d3 := hc 3 _ rfl; have d4 := hc 4 _ rfl; have d5 := hc 5 _ rfl; have d6 := hc 6 _ rfl; have d7 := hc 7 _ rfl
          simp only [Nat.add_zero] at d0 d1 d2 d3 d4 d5 d6 d7 hp
          subst he
          have HBA := Lib.hid (fun o => (hb.alloc (HLT.out _ hb) o : Below (w.heap.size + 2) W0 (wr.alloc o)))
          have HPU := Lib.hid (fun o => put_calls _ zs' xid (wr.alloc o) (hI.later ((Below.refl wr.heap.size wr).alloc (Nat.le_refl _) o)) (by omega) (by have := HLT.out _ hb; simp; omega))
          have hln := putL_len xid zs'
          have HP := Lib.hid hp
          clear hc hxk hp hI
          generalize putL zs' xid = ys at *
          go_wp2_with fail
          refine (HPU.out _).mono ?_
          rintro e w5 ⟨v5, rfl, hI5, hb5⟩
          have hc5 := HT0.out _ _ (HBA.out _) hb5
          have HI5 := Lib.hid hI5
          clear hb5 hI5 HPU
          go_wp2_with fail
          go_roundw
          case rel => exact ⟨k + 1, ys, by omega, by go_num, HI5.out, by omega, HP.out, hc5⟩
          case measure => simp [intOf]; omega
        · obtain rfl : k = cms'.length := by omega
          rw [List.drop_length, insAllC] at hp
          subst hp
          have HFIN := Lib.hid (HQ.out _ _ hI (HB.out _ hb))
          obtain ⟨a5, c5, hv5, _⟩ := hI.form
          subst hv5
          clear hI
          go_wp2_with fail
          exact HFIN.out
end Go.Proofs.YtnlnmbcaongehaaGreatDoor
namespace Go.Proofs.YtnlnmbcaongehaaGreatDoor
open Go.RowKit
theorem putS_less (zs : List ByteArray) (s : ByteArray) (k : Nat) (z : ByteArray) (h : zs[k]? = some z) (hz : Op.bytesLess z.toList s.toList = true) (hp : zs.take k ++ putS (zs.drop k) s = putS zs s) : zs.take (k + 1) ++ putS (zs.drop (k + 1)) s = putS zs s := by
  rw [← hp, drop_at zs k z h, putS, if_pos hz, List.take_add_one, h, List.append_assoc]
  rfl
theorem putS_eq (zs : List ByteArray) (s : ByteArray) (k : Nat) (z : ByteArray) (h : zs[k]? = some z) (hz : Op.bytesLess z.toList s.toList = false) (he : (z.toList == s.toList) = true) (hp : zs.take k ++ putS (zs.drop k) s = putS zs s) : putS zs s = zs := by
  rw [← hp, drop_at zs k z h, putS, if_neg (by rw [hz]; decide), if_pos he, ← drop_at zs k z h, List.take_append_drop]
theorem putS_new (zs : List ByteArray) (s : ByteArray) (k : Nat) (h : ∀ z, zs[k]? = some z → Op.bytesLess z.toList s.toList = false ∧ (z.toList == s.toList) = false) (hp : zs.take k ++ putS (zs.drop k) s = putS zs s) : putS zs s = zs.take k ++ [s] ++ zs.drop k := by
  rw [← hp]
  cases hz : zs[k]? with
  | none =>
    rw [List.drop_eq_nil_of_le (by simpa using hz)]
    simp [putS]
  | some z =>
    have := h z hz
    rw [drop_at zs k z hz, putS, if_neg (by rw [this.1]; decide), if_neg (by rw [this.2]; decide)]
    simp
end Go.Proofs.YtnlnmbcaongehaaGreatDoor
