/-
  The document's And, Less, Numbers, each by its contract.
-/
import Derived.Test.YtieloocmkgficaaAsksP
import Derived.Test.YtieloocmkgficaaGoes
import Derived.Test.YtieloocmkgficaaWrit
namespace Go.Proofs.Ytieloocmkgficaa
open Go.RowKit
set_option linter.unusedVariables false
set_option linter.unusedSimpArgs false
/-- Truth by truth, of the fields below k. -/
def joinK (f : Bool → Bool) (r o : List Bool) (k : Nat) : List Bool := (List.range 129).map fun i : Nat => decide (2 ≤ i ∧ i < k ∧ i ≠ 65) && r.getD i false && f (o.getD i false)
theorem joinK_len (f : Bool → Bool) (r o : List Bool) (k : Nat) : (joinK f r o k).length = 129 := by simp [joinK]
theorem joinK_two (f : Bool → Bool) (r o : List Bool) : joinK f r o 2 = zeros := by
  apply List.ext_getElem
  · simp [joinK, zeros]
  · intro i h1 h2
    simp only [joinK, zeros, List.getElem_map, List.getElem_range, List.getElem_replicate]
    rw [decide_eq_false (by omega)]; rfl
theorem joinK_get (f : Bool → Bool) (r o : List Bool) (k i : Nat) (h : i < 129) : (joinK f r o k).getD i false = (decide (2 ≤ i ∧ i < k ∧ i ≠ 65) && r.getD i false && f (o.getD i false)) := by
  have hl : i < (joinK f r o k).length := by rw [joinK_len]; exact h
  rw [List.getD, List.getElem?_eq_getElem hl, Option.getD_some]
  simp only [joinK, List.getElem_map, List.getElem_range]
theorem joinK_set (f : Bool → Bool) (r o : List Bool) (k : Nat) (h2 : 2 ≤ k) (v : Bool) (hv : v = (decide (k ≠ 65) && r.getD k false && f (o.getD k false))) : (joinK f r o k).set k v = joinK f r o (k + 1) := by
  apply List.ext_getElem
  · simp [joinK]
  · intro i g1 g2
    rw [List.getElem_set]
    simp only [joinK, List.getElem_map, List.getElem_range]
    by_cases e : k = i
    · subst e
      rw [if_pos rfl, hv]
      congr 2
      rw [Bool.eq_iff_iff]
      simp
      omega
    · rw [if_neg e]
      congr 2
      rw [Bool.eq_iff_iff]
      simp
      omega
theorem blk_set {W : World} {g k : Nat} {r q : List Bool} {b : Bool} (h : Blk W g 40 (rowA r)) (e : r.set k b = q) : Blk (W.setCell ⟨g, k, none⟩ (.bool b)) g 40 (rowA q) := by
  have q := h.set_ k (.bool b)
  rwa [rowA_set, e] at q
set_option maxRecDepth 100000 in
set_option maxHeartbeats 1000000 in
theorem rand_any (r o : List Bool) (hr : r.length = 129) (ho : o.length = 129) (w : World) : Calls Try.prog 37 #[.agg (rowA r), .agg (rowA o)] w fun e w' => e = .returned (.agg (rowA (joinK id r o 129))) ∧ Below w.heap.size w w' := by
  have hz := zero40
  have HR := Lib.hid hr
  have HO := Lib.hid ho
  obtain ⟨q, hq⟩ : ∃ q, joinK id r o 129 = q := ⟨_, rfl⟩
  rw [hq]
  have HQ := Lib.hid hq
  have HQL : Hid (q.length = 129) := by show _ = _; rw [← hq]; exact joinK_len _ _ _ _
  clear hq hr ho
  go_enter Try.func37, Try.ntmps37
  go_wp2
  clear hz
  go_loopw [6] (fun i wr => ∃ (k : Nat), 2 ≤ k ∧ k ≤ 129 ∧ i = .int .i64 k ∧ Blk wr w.heap.size 40 (rowA r) ∧ Blk wr (w.heap.size + 1) 40 (rowA o) ∧ Blk wr (w.heap.size + 2) 40 (rowA zeros) ∧ Blk wr (w.heap.size + 3) 40 (rowA (joinK id r o k)) ∧ Below w.heap.size w wr) (fun i _ => 129 - (intOf i).toNat)
  case atStart =>
    refine ⟨2, by omega, by omega, rfl, (((Blk.new w 40 _).alloc _).alloc _).alloc _, ((Blk.new2 _ _ _ _).alloc _).alloc _, (Blk.new3 _ _ _ _ _).alloc _, ?_, (below3 _ _ _ _).alloc (by simp; omega) _⟩
    rw [joinK_two]
    have q := Blk.new (((w.alloc (.cells (rowA r) 40)).alloc (.cells (rowA o) 40)).alloc (.cells (rowA zeros) 40)) 40 (rowA zeros)
    simpa using q
  case round =>
    obtain ⟨k, k0, k1, rfl, hR, hO, hX, hY, hb⟩ := hrel
    by_cases hlt : k ≤ 128
    · have yr := (hR.cell k).trans (rowA_get r k (by rw [HR.out]; omega))
      have yo := (hO.cell k).trans (rowA_get o k (by rw [HO.out]; omega))
      have y0 := (hY.cell k).trans (rowA_get _ k (by rw [joinK_len]; omega))
      have yf := hY.frozen k
      have hs := joinK_set id r o k k0
      obtain ⟨v0, e0⟩ : ∃ v, (joinK id r o k).getD k false = v := ⟨_, rfl⟩
      obtain ⟨v1, e1⟩ : ∃ v, r.getD k false = v := ⟨_, rfl⟩
      obtain ⟨v2, e2⟩ : ∃ v, o.getD k false = v := ⟨_, rfl⟩
      rw [e0] at y0
      rw [e1] at yr hs
      rw [e2] at yo hs
      have HS := Lib.hid hs
      have H1 := Lib.hid hR
      have H2 := Lib.hid hO
      have H3 := Lib.hid hX
      have H4 := Lib.hid hY
      clear hs hR hO hX hY e0 e1 e2
      by_cases hk : k = 65
      · subst hk
        go_wp2
        go_roundw
        case rel =>
          have q := H4.out.set_ 65 (.bool false)
          rw [rowA_set, HS.out false (by simp)] at q
          exact ⟨66, by omega, by omega, by go_num, H1.out.far_ (by omega) _, H2.out.far_ (by omega) _, H3.out.far_ (by omega) _, q, hb.setCell (p := ⟨w.heap.size + 3, 65, none⟩) (by simp) _⟩
        case measure => simp [intOf]
      · have hk' : ((k : Int) != 65) = true := by simp; omega
        obtain ⟨v3, hv3⟩ : ∃ v3, (decide (k ≠ 65) && v1 && id v2) = v3 := ⟨_, rfl⟩
        have HS2 := Lib.hid (HS.out v3 hv3.symm)
        cases v1 <;> cases v2 <;> simp [hk] at hv3 <;> subst hv3
        all_goals
          go_wp2
          go_roundw
          case rel =>
            exact ⟨k + 1, by omega, by omega, by go_num, H1.out.far_ (by omega) _, H2.out.far_ (by omega) _, H3.out.far_ (by omega) _, blk_set H4.out HS2.out, hb.setCell (p := ⟨w.heap.size + 3, k, none⟩) (by simp) _⟩
          case measure => simp [intOf]; omega
    · have hk : k = 129 := by omega
      subst hk
      rw [HQ.out] at hY
      have HX := Lib.hid hX
      have HY := Lib.hid hY
      have HS : Hid ((Try.prog.info? 40).map (·.size) = some (rowA q).size) := by show _ = _; rw [info40, rowA_size, HQL.out]
      have HZ : Hid ((rowA zeros).size = (rowA q).size) := by show _ = _; rw [rowA_size, rowA_size, HQL.out]; rfl
      have H1 : Hid ((rowA q).all (·.oneCell') = true) := rowA_one q
      clear hX hY hR hO
      go_wp2_with (first
        | (refine wpList_load_row rfl 40 (.tmp 5) rfl _ rfl 40 (rowA q) (0, 0) _ HY.out Try.underlying40 rfl HS.out ?_)
        | (refine wpList_store_row rfl 40 (.tmp 4) (.tmp 25) rfl _ (rowA q) rfl rfl 40 (rowA zeros) HX.out HS.out HZ.out H1.out ?_))
      exact ret_row rfl HQL.out rfl HX.out.setRow rfl ⟨rfl, below_setRow hb (by omega)⟩
set_option maxRecDepth 100000 in
set_option maxHeartbeats 1000000 in
theorem rless_any (r o : List Bool) (hr : r.length = 129) (ho : o.length = 129) (w : World) : Calls Try.prog 38 #[.agg (rowA r), .agg (rowA o)] w fun e w' => e = .returned (.agg (rowA (joinK not r o 129))) ∧ Below w.heap.size w w' := by
  have hz := zero40
  have HR := Lib.hid hr
  have HO := Lib.hid ho
  obtain ⟨q, hq⟩ : ∃ q, joinK not r o 129 = q := ⟨_, rfl⟩
  rw [hq]
  have HQ := Lib.hid hq
  have HQL : Hid (q.length = 129) := by show _ = _; rw [← hq]; exact joinK_len _ _ _ _
  clear hq hr ho
  go_enter Try.func38, Try.ntmps38
  go_wp2
  clear hz
  go_loopw [6] (fun i wr => ∃ (k : Nat), 2 ≤ k ∧ k ≤ 129 ∧ i = .int .i64 k ∧ Blk wr w.heap.size 40 (rowA r) ∧ Blk wr (w.heap.size + 1) 40 (rowA o) ∧ Blk wr (w.heap.size + 2) 40 (rowA zeros) ∧ Blk wr (w.heap.size + 3) 40 (rowA (joinK not r o k)) ∧ Below w.heap.size w wr) (fun i _ => 129 - (intOf i).toNat)
  case atStart =>
    refine ⟨2, by omega, by omega, rfl, (((Blk.new w 40 _).alloc _).alloc _).alloc _, ((Blk.new2 _ _ _ _).alloc _).alloc _, (Blk.new3 _ _ _ _ _).alloc _, ?_, (below3 _ _ _ _).alloc (by simp; omega) _⟩
    rw [joinK_two]
    have q := Blk.new (((w.alloc (.cells (rowA r) 40)).alloc (.cells (rowA o) 40)).alloc (.cells (rowA zeros) 40)) 40 (rowA zeros)
    simpa using q
  case round =>
    obtain ⟨k, k0, k1, rfl, hR, hO, hX, hY, hb⟩ := hrel
    by_cases hlt : k ≤ 128
    · have yr := (hR.cell k).trans (rowA_get r k (by rw [HR.out]; omega))
      have yo := (hO.cell k).trans (rowA_get o k (by rw [HO.out]; omega))
      have y0 := (hY.cell k).trans (rowA_get _ k (by rw [joinK_len]; omega))
      have yf := hY.frozen k
      have hs := joinK_set not r o k k0
      obtain ⟨v0, e0⟩ : ∃ v, (joinK not r o k).getD k false = v := ⟨_, rfl⟩
      obtain ⟨v1, e1⟩ : ∃ v, r.getD k false = v := ⟨_, rfl⟩
      obtain ⟨v2, e2⟩ : ∃ v, o.getD k false = v := ⟨_, rfl⟩
      rw [e0] at y0
      rw [e1] at yr hs
      rw [e2] at yo hs
      have HS := Lib.hid hs
      have H1 := Lib.hid hR
      have H2 := Lib.hid hO
      have H3 := Lib.hid hX
      have H4 := Lib.hid hY
      clear hs hR hO hX hY e0 e1 e2
      by_cases hk : k = 65
      · subst hk
        go_wp2
        go_roundw
        case rel =>
          have q := H4.out.set_ 65 (.bool false)
          rw [rowA_set, HS.out false (by simp)] at q
          exact ⟨66, by omega, by omega, by go_num, H1.out.far_ (by omega) _, H2.out.far_ (by omega) _, H3.out.far_ (by omega) _, q, hb.setCell (p := ⟨w.heap.size + 3, 65, none⟩) (by simp) _⟩
        case measure => simp [intOf]
      · have hk' : ((k : Int) != 65) = true := by simp; omega
        obtain ⟨v3, hv3⟩ : ∃ v3, (decide (k ≠ 65) && v1 && not v2) = v3 := ⟨_, rfl⟩
        have HS2 := Lib.hid (HS.out v3 hv3.symm)
        cases v1 <;> cases v2 <;> simp [hk] at hv3 <;> subst hv3
        all_goals
          go_wp2
          go_roundw
          case rel =>
            exact ⟨k + 1, by omega, by omega, by go_num, H1.out.far_ (by omega) _, H2.out.far_ (by omega) _, H3.out.far_ (by omega) _, blk_set H4.out HS2.out, hb.setCell (p := ⟨w.heap.size + 3, k, none⟩) (by simp) _⟩
          case measure => simp [intOf]; omega
    · have hk : k = 129 := by omega
      subst hk
      rw [HQ.out] at hY
      have HX := Lib.hid hX
      have HY := Lib.hid hY
      have HS : Hid ((Try.prog.info? 40).map (·.size) = some (rowA q).size) := by show _ = _; rw [info40, rowA_size, HQL.out]
      have HZ : Hid ((rowA zeros).size = (rowA q).size) := by show _ = _; rw [rowA_size, rowA_size, HQL.out]; rfl
      have H1 : Hid ((rowA q).all (·.oneCell') = true) := rowA_one q
      clear hX hY hR hO
      go_wp2_with (first
        | (refine wpList_load_row rfl 40 (.tmp 5) rfl _ rfl 40 (rowA q) (0, 0) _ HY.out Try.underlying40 rfl HS.out ?_)
        | (refine wpList_store_row rfl 40 (.tmp 4) (.tmp 26) rfl _ (rowA q) rfl rfl 40 (rowA zeros) HX.out HS.out HZ.out H1.out ?_))
      exact ret_row rfl HQL.out rfl HX.out.setRow rfl ⟨rfl, below_setRow hb (by omega)⟩
/-- The fields of a row below k + 2. -/
def numR (r : List Bool) (k : Nat) : List Int := ((List.range k).map fun i : Nat => ((i : Nat) : Int) + 2).filter fun x => !(x == 65) && r.getD x.toNat false
theorem numR_succ (r : List Bool) (k : Nat) : numR r (k + 1) = numR r k ++ if (!((k : Int) + 2 == 65) && r.getD (k + 2) false) = true then [((k : Int) + 2)] else [] := by
  unfold numR
  rw [List.range_succ, List.map_append, List.filter_append]
  simp only [List.map_cons, List.map_nil, List.filter_cons, List.filter_nil, show ((k : Int) + 2).toNat = k + 2 by omega]
theorem numR_le (r : List Bool) (k : Nat) : (numR r k).length ≤ k := by
  unfold numR
  refine Nat.le_trans (List.length_filter_le _ _) ?_
  simp
theorem ret_own {W : World} {B : Nat} {v : Value} {xs : List Int} (h : W.ownsRow B 3 1 v xs.length (xs.map (Value.int .i64))) : ∃ A cap, v = .slice A xs.length cap ∧ InL W A xs := by
  rcases h with ⟨hx, ⟨rfl, h0⟩ | ⟨g, cap, cur, rfl, hb, hg, h1, h2, h3, h4⟩⟩
  · have : xs = [] := List.eq_nil_of_length_eq_zero h0
    subst this
    exact ⟨none, 0, rfl, fun k hk => by simp at hk⟩
  · have hlt : g < W.heap.size := (Array.getElem?_eq_some_iff.1 hg).1
    refine ⟨some ⟨g, 0, none⟩, cap, rfl, fun i hi => ⟨g, 0, rfl, hlt, ?_⟩⟩
    have hc := cell_of_row W g (0 + i) cur 3 (0, 0) hg
    rw [hc]
    have e : (cur.toList.take (xs.length * 1))[i]? = (xs.map (Value.int .i64))[i]? := by rw [h4]
    rw [List.getElem?_take, if_pos (by omega), Array.getElem?_toList] at e
    rw [Nat.zero_add, e]
    simp [List.getElem?_eq_getElem hi]
set_option maxRecDepth 100000 in
set_option maxHeartbeats 1000000 in
theorem rnums_any (r : List Bool) (hr : r.length = 129) (w : World) : Calls Try.prog 39 #[.agg (rowA r)] w fun e w' => ∃ A cap, e = .returned (.slice A (numR r 127).length cap) ∧ InL w' A (numR r 127) ∧ Below w.heap.size w w' := by
  obtain ⟨i0, hi, hz0, hz1, hz2⟩ := info_parts Try.info3i
  have HR := Lib.hid hr
  clear hr
  go_enter Try.func39, Try.ntmps39
  go_wp2
  go_loopw [3, 4] (fun v i wr => ∃ (k : Nat) (xs : List Int), k ≤ 127 ∧ i = .int .i64 ((k : Int) + 2) ∧ Hid (numR r k = xs) ∧ xs.length ≤ k ∧ Blk wr w.heap.size 40 (rowA r) ∧ wr.ownsRow (w.heap.size + 1) 3 1 v xs.length (xs.map (Value.int .i64)) ∧ Below w.heap.size w wr) (fun _ i _ => 129 - (intOf i).toNat)
  case atStart => exact ⟨0, [], by omega, rfl, Lib.hid rfl, by simp, Blk.new w 40 _, World.ownsRow_nil _ _ _ _, (Below.refl _ _).alloc (Nat.le_refl _) _⟩
  case round =>
    obtain ⟨k, xs, hk, rfl, HXS, hxl, hR, hown, hb⟩ := hrel
    have hgsz := hR.lt
    by_cases hlt : k < 127
    · have yr := (hR.cell (k + 2)).trans (rowA_get r (k + 2) (by rw [HR.out]; omega))
      have hsu := numR_succ r k
      rw [HXS.out] at hsu
      have hle : (k : Int) + 2 ≤ 128 := by omega
      have ht2 : ((k : Int) + 2).toNat = k + 2 := by omega
      obtain ⟨v1, e1⟩ : ∃ v, r.getD (k + 2) false = v := ⟨_, rfl⟩
      rw [e1] at yr hsu
      have H1 := Lib.hid hR
      clear hR e1
      by_cases h65 : k = 63
      · subst h65
        have HSU := Lib.hid hsu
        clear hsu
        go_wp2
        go_roundw
        case rel =>
          refine ⟨64, xs, by omega, by go_num, Lib.hid ?_, by omega, H1.out, hown, hb⟩
          rw [HSU.out]; simp
        case measure => simp [intOf]
      · have h65' : ((k : Int) + 2 == 65) = false := by simp; omega
        have h65n : ((k : Int) + 2 != 65) = true := by simp; omega
        rw [h65'] at hsu
        cases v1
        · have HSU := Lib.hid hsu
          clear hsu
          go_wp2
          go_roundw
          case rel =>
            refine ⟨k + 1, xs, by omega, by go_num, Lib.hid ?_, by omega, H1.out, hown, hb⟩
            rw [HSU.out]; simp
          case measure => simp [intOf]; omega
        · have HSU := Lib.hid hsu
          clear hsu
          have hsz := hb.size
          go_wp2_with (at_builtin; refine wpList_append_own _ rfl _ _ 35 rfl (w.heap.size + 1) 3 i0 (.int .i64 0) 1 8 Try.underlying35 hi hz0 hz1 hz2 rfl (by decide) _ _ _ rfl (hown.alloc _) ⟨wr.heap.size, 0, none⟩ 1 1 [.int .i64 ((k : Int) + 2)] rfl rfl (cell_one_new _ _ _) (by simp [Value.oneCell']) (by unfold maxLen; omega) (by omega) (by simp; omega) ?_; intro v' w2 hown' hgrow _; have hb' := (hb.alloc hsz (.cells #[.int .i64 ((k : Int) + 2)] 3)).grown hgrow (by simp; omega) (fun j e => by have := own_lt hown j e; omega); have H2 := Lib.hid ((H1.out.alloc _).grown hgrow (fun e => by have := own_lt hown _ e.symm; omega)); have ho2 := Lib.hid hown'; clear hown hown' hgrow hb)
          go_roundw
          case rel =>
            refine ⟨k + 1, xs ++ [((k : Int) + 2)], by omega, by go_num, Lib.hid ?_, by simp; omega, H2.out, ?_, hb'⟩
            · rw [HSU.out]; simp
            · rw [List.length_append, List.map_append]; exact ho2.out
          case measure => simp [intOf]; omega
    · have hk2 : k = 127 := by omega
      subst hk2
      obtain ⟨A, cap, rfl, hL⟩ := ret_own hown
      have HL := Lib.hid hL
      have HX := HXS
      clear hown hR hL
      go_wp2
      go_ret
      rw [HXS.out]
      exact ⟨A, cap, rfl, HL.out, hb⟩
end Go.Proofs.Ytieloocmkgficaa
