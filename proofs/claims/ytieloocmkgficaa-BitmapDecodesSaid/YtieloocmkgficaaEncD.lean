/-
  The document's Encode by its contract.
-/
import Derived.Test.YtieloocmkgficaaEncR
namespace Go.Proofs.Ytieloocmkgficaa
open Go.RowKit
set_option linter.unusedVariables false
set_option linter.unusedSimpArgs false
def halfE (enc : Int) (r : List Bool) (o : Nat) : ByteArray := if enc = 5 then halfS 1 r o 8 8 else halfS (fOf enc) r o 4 16
theorem halfE_size (enc : Int) (r : List Bool) (o : Nat) : (halfE enc r o).size = if enc = 5 then 8 else 16 := by
  unfold halfE
  split <;> rw [halfS_size]
theorem half_any (enc : Int) (r : List Bool) (hr : r.length = 129) (ob : Nat) (fr : Int) (hfr : fr = (ob : Int) + 1) (ho : ob ≤ 64) (w : World) :
    Calls Try.prog 50 #[.agg (rowA r), .int .i64 enc, .int .i64 fr] w fun e w' => e = .returned (.string (halfE enc r ob)) ∧ Below w.heap.size w w' := by
  unfold halfE
  by_cases h : enc = 5
  · subst h; rw [if_pos rfl]; exact half_eight r hr ob fr hfr ho w
  · rw [if_neg h]; exact half_let enc h r hr ob fr hfr ho w
def anyR (r : List Bool) : Nat → Bool
  | 0 => false
  | m + 1 => anyR r m || r.getD (66 + m) false
set_option maxHeartbeats 1000000 in
theorem renc_bad (enc : Int) (r : List Bool) (hr : r.length = 129) (h : knownB enc = false ∨ rightR r = false) (w : World) :
    Calls Try.prog 26 #[.int .i64 enc, .agg (rowA r)] w fun e w' => e = .returned (.tuple #[.string ByteArray.empty, .int .i64 1]) ∧ Below w.heap.size w w' := by
  have QR := Lib.hid fun w => rright_any r hr w
  have QK := Lib.hid fun w => known_any enc w
  obtain ⟨v1, e1⟩ : ∃ v, knownB enc = v := ⟨_, rfl⟩
  obtain ⟨v2, e2⟩ : ∃ v, rightR r = v := ⟨_, rfl⟩
  rw [e1] at h QK
  rw [e2] at h QR
  have HS : Hid ((Try.prog.info? 40).map (·.size) = some (rowA r).size) := by show _ = _; rw [info40, rowA_size, hr]
  have HX : Hid (Blk (w.alloc (.cells (rowA r) 40)) w.heap.size 40 (rowA r)) := Blk.new w 40 (rowA r)
  clear e1 e2 hr
  have hv : v1 = false ∨ v1 = true ∧ v2 = false := by
    rcases h with h | h
    · exact .inl h
    · cases v1
      · exact .inl rfl
      · exact .inr ⟨rfl, h⟩
  clear h
  rcases hv with rfl | ⟨rfl, rfl⟩
  all_goals
    go_enter Try.func26, Try.ntmps26
    go_wp2_with (first
      | (go_at_call 49; refine (QK.out _).mono ?_; rintro e w' ⟨rfl, rfl⟩)
      | (refine wpList_load_row rfl 40 (.tmp 3) rfl _ rfl 40 (rowA r) (0, 0) _ HX.out Try.underlying40 rfl HS.out ?_)
      | (go_at_call 35; refine (QR.out _).mono ?_; rintro e w1 ⟨rfl, hb⟩; have hB := ((Below.refl _ w).alloc (Nat.le_refl _) (.cells (rowA r) 40)).trans (hb.mono (by simp)); clear hb))
    go_ret2
    exact ⟨rfl, hB⟩
set_option maxRecDepth 100000 in
set_option maxHeartbeats 2000000 in
theorem renc_eight (enc : Int) (r : List Bool) (hr : r.length = 129) (hk : knownB enc = true) (hri : rightR r = true) (more : Bool) (hm : anyR r 63 = more) (hsz : ∀ q o, (halfE enc q o).size = 8) (w : World) :
    Calls Try.prog 26 #[.int .i64 enc, .agg (rowA r)] w fun e w' => e = .returned (.tuple #[.string (if more = true then halfE enc (r.set 1 more) 0 ++ halfE enc (r.set 1 more) 64 else halfE enc (r.set 1 more) 0), .int .i64 0]) ∧ Below w.heap.size w w' := by
  have QR : Hid (∀ w, Calls Try.prog 35 #[.agg (rowA r)] w fun e w' => e = .returned (.bool true) ∧ Below w.heap.size w w') := Lib.hid fun w => by
    have := rright_any r hr w; rwa [hri] at this
  have QK : Hid (∀ w, Calls Try.prog 49 #[.int .i64 enc] w fun e w' => e = .returned (.bool true) ∧ w = w') := Lib.hid fun w => by
    have := known_any enc w; rwa [hk] at this
  have hq : (r.set 1 more).length = 129 := by simp [hr]
  have Q1 := Lib.hid fun w => half_any enc (r.set 1 more) hq 0 1 (by omega) (by omega) w
  have Q2 := Lib.hid fun w => half_any enc (r.set 1 more) hq 64 65 (by omega) (by omega) w
  have HS : Hid ((Try.prog.info? 40).map (·.size) = some (rowA r).size) := by show _ = _; rw [info40, rowA_size, hr]
  have HSq : Hid ((Try.prog.info? 40).map (·.size) = some (rowA (r.set 1 more)).size) := by show _ = _; rw [info40, rowA_size, hq]
  have HX : Hid (Blk (w.alloc (.cells (rowA r) 40)) w.heap.size 40 (rowA r)) := Blk.new w 40 (rowA r)
  have HG : Hid (∀ k, k < 129 → (rowA r)[k]? = some (.bool (r.getD k false))) := by
    show ∀ k, _
    intro k hk; exact rowA_get r k (by omega)
  have HM := Lib.hid hm
  have Z1 := hsz (r.set 1 more) 0
  have Z2 := hsz (r.set 1 more) 64
  have HSet : Hid ((rowA r).setIfInBounds 1 (.bool more) = rowA (r.set 1 more)) := rowA_set _ _ _
  obtain ⟨s1, hs1⟩ : ∃ s, halfE enc (r.set 1 more) 0 = s := ⟨_, rfl⟩
  obtain ⟨s2, hs2⟩ : ∃ s, halfE enc (r.set 1 more) 64 = s := ⟨_, rfl⟩
  rw [hs1] at Q1 Z1 ⊢
  rw [hs2] at Q2 Z2 ⊢
  obtain ⟨q, hqq⟩ : ∃ q, r.set 1 more = q := ⟨_, rfl⟩
  rw [hqq] at Q1 Q2 HSq HSet
  clear hs1 hs2 hqq hk hri hm hsz hq hr
  go_enter Try.func26, Try.ntmps26
  go_wp2_with (first
    | (go_at_call 49; refine (QK.out _).mono ?_; rintro e w' ⟨rfl, rfl⟩)
    | (refine wpList_load_row rfl 40 (.tmp 3) rfl _ rfl 40 (rowA r) (0, 0) _ HX.out Try.underlying40 rfl HS.out ?_)
    | (go_at_call 35; refine (QR.out _).mono ?_; rintro e w1 ⟨rfl, hb⟩; have HX1 := Lib.hid (Blk.below HX.out hb (by simp)); have hB := ((Below.refl _ w).alloc (Nat.le_refl _) (.cells (rowA r) 40)).trans (hb.mono (by simp)); clear hb))
  go_loop [8, 9] (fun x i => ∃ m : Nat, m ≤ 63 ∧ i = .int .i64 (66 + (m : Int)) ∧ x = .bool (anyR r m)) (fun _ i => 129 - (intOf i).toNat)
  case atStart => exact ⟨0, by omega, by simp, rfl⟩
  case round =>
    obtain ⟨m, hm, rfl, rfl⟩ := hrel
    by_cases hlt : m < 63
    · have y0 := (Blk.cell HX1.out (66 + m)).trans (HG.out (66 + m) (by omega))
      have hst : Hid (anyR r (m + 1) = (anyR r m || r.getD (66 + m) false)) := rfl
      obtain ⟨v, hv⟩ : ∃ v, r.getD (66 + m) false = v := ⟨_, rfl⟩
      obtain ⟨u, hu⟩ : ∃ u, anyR r m = u := ⟨_, rfl⟩
      rw [hv] at y0 hst
      rw [hu] at hst ⊢
      clear hv hu
      have bd : (66 + (m : Int)).toNat = 66 + m := by omega
      have b0 : (0 : Int) ≤ 66 + (m : Int) := by omega
      have b1 : 66 + (m : Int) < 129 := by omega
      cases u <;> cases v
      all_goals
        go_wp2
        go_round
        case rel => exact ⟨m + 1, by omega, by go_num, by rw [hst.out]; rfl⟩
        case measure => simp [intOf]; omega
    · have hm2 : m = 63 := by omega
      subst hm2
      have y0 := (Blk.cell HX1.out 1).trans (HG.out 1 (by omega))
      have yf := Blk.frozen HX1.out 1
      have HXq : Hid (Blk (w1.setCell ⟨w.heap.size, 1, none⟩ (.bool more)) w.heap.size 40 (rowA q)) := by
        have h := Blk.set_ HX1.out 1 (.bool more)
        rw [HSet.out] at h; exact h
      have hB1 := hB.setCell (p := ⟨w.heap.size, 1, none⟩) (Nat.le_refl _) (.bool more)
      rw [HM.out]
      cases more
      · go_wp2_with (first
          | (refine wpList_load_row rfl 40 (.tmp 3) rfl _ rfl 40 (rowA q) (0, 0) _ HXq.out Try.underlying40 rfl HSq.out ?_)
          | (go_at_call 50; refine (Q1.out _).mono ?_; rintro e w2 ⟨rfl, hb2⟩; have hB2 := hB1.trans (hb2.mono hB1.size)))
        go_ret2
        exact ⟨rfl, hB2⟩
      · go_wp2_with (first
          | (refine wpList_load_row rfl 40 (.tmp 3) rfl _ rfl 40 (rowA q) (0, 0) _ HXq.out Try.underlying40 rfl HSq.out ?_)
          | (go_at_call_of 50 (Value.int IntKind.i64 1); refine (Q1.out _).mono ?_; rintro e w2 ⟨rfl, hb2⟩; have HXr := Lib.hid (Blk.below HXq.out hb2 (Blk.lt HXq.out)); have hB2 := hB1.trans (hb2.mono hB1.size))
          | (refine wpList_load_row rfl 40 (.tmp 3) rfl _ rfl 40 (rowA q) (0, 0) _ HXr.out Try.underlying40 rfl HSq.out ?_)
          | (go_at_call 50; refine (Q2.out _).mono ?_; rintro e w3 ⟨rfl, hb3⟩; have hB3 := hB2.trans (hb3.mono hB2.size)))
        go_ret2
        exact ⟨rfl, hB3⟩
set_option maxRecDepth 100000 in
set_option maxHeartbeats 2000000 in
theorem renc_let (enc : Int) (r : List Bool) (hr : r.length = 129) (hk : knownB enc = true) (hri : rightR r = true) (more : Bool) (hm : anyR r 63 = more) (hsz : ∀ q o, (halfE enc q o).size = 16) (w : World) :
    Calls Try.prog 26 #[.int .i64 enc, .agg (rowA r)] w fun e w' => e = .returned (.tuple #[.string (if more = true then halfE enc (r.set 1 more) 0 ++ halfE enc (r.set 1 more) 64 else halfE enc (r.set 1 more) 0), .int .i64 0]) ∧ Below w.heap.size w w' := by
  have QR : Hid (∀ w, Calls Try.prog 35 #[.agg (rowA r)] w fun e w' => e = .returned (.bool true) ∧ Below w.heap.size w w') := Lib.hid fun w => by
    have := rright_any r hr w; rwa [hri] at this
  have QK : Hid (∀ w, Calls Try.prog 49 #[.int .i64 enc] w fun e w' => e = .returned (.bool true) ∧ w = w') := Lib.hid fun w => by
    have := known_any enc w; rwa [hk] at this
  have hq : (r.set 1 more).length = 129 := by simp [hr]
  have Q1 := Lib.hid fun w => half_any enc (r.set 1 more) hq 0 1 (by omega) (by omega) w
  have Q2 := Lib.hid fun w => half_any enc (r.set 1 more) hq 64 65 (by omega) (by omega) w
  have HS : Hid ((Try.prog.info? 40).map (·.size) = some (rowA r).size) := by show _ = _; rw [info40, rowA_size, hr]
  have HSq : Hid ((Try.prog.info? 40).map (·.size) = some (rowA (r.set 1 more)).size) := by show _ = _; rw [info40, rowA_size, hq]
  have HX : Hid (Blk (w.alloc (.cells (rowA r) 40)) w.heap.size 40 (rowA r)) := Blk.new w 40 (rowA r)
  have HG : Hid (∀ k, k < 129 → (rowA r)[k]? = some (.bool (r.getD k false))) := by
    show ∀ k, _
    intro k hk; exact rowA_get r k (by omega)
  have HM := Lib.hid hm
  have Z1 := hsz (r.set 1 more) 0
  have Z2 := hsz (r.set 1 more) 64
  have HSet : Hid ((rowA r).setIfInBounds 1 (.bool more) = rowA (r.set 1 more)) := rowA_set _ _ _
  obtain ⟨s1, hs1⟩ : ∃ s, halfE enc (r.set 1 more) 0 = s := ⟨_, rfl⟩
  obtain ⟨s2, hs2⟩ : ∃ s, halfE enc (r.set 1 more) 64 = s := ⟨_, rfl⟩
  rw [hs1] at Q1 Z1 ⊢
  rw [hs2] at Q2 Z2 ⊢
  obtain ⟨q, hqq⟩ : ∃ q, r.set 1 more = q := ⟨_, rfl⟩
  rw [hqq] at Q1 Q2 HSq HSet
  clear hs1 hs2 hqq hk hri hm hsz hq hr
  go_enter Try.func26, Try.ntmps26
  go_wp2_with (first
    | (go_at_call 49; refine (QK.out _).mono ?_; rintro e w' ⟨rfl, rfl⟩)
    | (refine wpList_load_row rfl 40 (.tmp 3) rfl _ rfl 40 (rowA r) (0, 0) _ HX.out Try.underlying40 rfl HS.out ?_)
    | (go_at_call 35; refine (QR.out _).mono ?_; rintro e w1 ⟨rfl, hb⟩; have HX1 := Lib.hid (Blk.below HX.out hb (by simp)); have hB := ((Below.refl _ w).alloc (Nat.le_refl _) (.cells (rowA r) 40)).trans (hb.mono (by simp)); clear hb))
  go_loop [8, 9] (fun x i => ∃ m : Nat, m ≤ 63 ∧ i = .int .i64 (66 + (m : Int)) ∧ x = .bool (anyR r m)) (fun _ i => 129 - (intOf i).toNat)
  case atStart => exact ⟨0, by omega, by simp, rfl⟩
  case round =>
    obtain ⟨m, hm, rfl, rfl⟩ := hrel
    by_cases hlt : m < 63
    · have y0 := (Blk.cell HX1.out (66 + m)).trans (HG.out (66 + m) (by omega))
      have hst : Hid (anyR r (m + 1) = (anyR r m || r.getD (66 + m) false)) := rfl
      obtain ⟨v, hv⟩ : ∃ v, r.getD (66 + m) false = v := ⟨_, rfl⟩
      obtain ⟨u, hu⟩ : ∃ u, anyR r m = u := ⟨_, rfl⟩
      rw [hv] at y0 hst
      rw [hu] at hst ⊢
      clear hv hu
      have bd : (66 + (m : Int)).toNat = 66 + m := by omega
      have b0 : (0 : Int) ≤ 66 + (m : Int) := by omega
      have b1 : 66 + (m : Int) < 129 := by omega
      cases u <;> cases v
      all_goals
        go_wp2
        go_round
        case rel => exact ⟨m + 1, by omega, by go_num, by rw [hst.out]; rfl⟩
        case measure => simp [intOf]; omega
    · have hm2 : m = 63 := by omega
      subst hm2
      have y0 := (Blk.cell HX1.out 1).trans (HG.out 1 (by omega))
      have yf := Blk.frozen HX1.out 1
      have HXq : Hid (Blk (w1.setCell ⟨w.heap.size, 1, none⟩ (.bool more)) w.heap.size 40 (rowA q)) := by
        have h := Blk.set_ HX1.out 1 (.bool more)
        rw [HSet.out] at h; exact h
      have hB1 := hB.setCell (p := ⟨w.heap.size, 1, none⟩) (Nat.le_refl _) (.bool more)
      rw [HM.out]
      cases more
      · go_wp2_with (first
          | (refine wpList_load_row rfl 40 (.tmp 3) rfl _ rfl 40 (rowA q) (0, 0) _ HXq.out Try.underlying40 rfl HSq.out ?_)
          | (go_at_call 50; refine (Q1.out _).mono ?_; rintro e w2 ⟨rfl, hb2⟩; have hB2 := hB1.trans (hb2.mono hB1.size)))
        go_ret2
        exact ⟨rfl, hB2⟩
      · go_wp2_with (first
          | (refine wpList_load_row rfl 40 (.tmp 3) rfl _ rfl 40 (rowA q) (0, 0) _ HXq.out Try.underlying40 rfl HSq.out ?_)
          | (go_at_call_of 50 (Value.int IntKind.i64 1); refine (Q1.out _).mono ?_; rintro e w2 ⟨rfl, hb2⟩; have HXr := Lib.hid (Blk.below HXq.out hb2 (Blk.lt HXq.out)); have hB2 := hB1.trans (hb2.mono hB1.size))
          | (refine wpList_load_row rfl 40 (.tmp 3) rfl _ rfl 40 (rowA q) (0, 0) _ HXr.out Try.underlying40 rfl HSq.out ?_)
          | (go_at_call 50; refine (Q2.out _).mono ?_; rintro e w3 ⟨rfl, hb3⟩; have hB3 := hB2.trans (hb3.mono hB2.size)))
        go_ret2
        exact ⟨rfl, hB3⟩
def encRV (enc : Int) (r : List Bool) : ByteArray × Int :=
  if knownB enc && rightR r then (if anyR r 63 = true then halfE enc (r.set 1 (anyR r 63)) 0 ++ halfE enc (r.set 1 (anyR r 63)) 64 else halfE enc (r.set 1 (anyR r 63)) 0, 0) else (ByteArray.empty, 1)
theorem renc_any (enc : Int) (r : List Bool) (hr : r.length = 129) (w : World) :
    Calls Try.prog 26 #[.int .i64 enc, .agg (rowA r)] w fun e w' => e = .returned (.tuple #[.string (encRV enc r).1, .int .i64 (encRV enc r).2]) ∧ Below w.heap.size w w' := by
  unfold encRV
  cases hk : knownB enc
  · exact renc_bad enc r hr (.inl hk) w
  cases hri : rightR r
  · exact renc_bad enc r hr (.inr hri) w
  simp only [Bool.and_self, if_true]
  by_cases h5 : enc = 5
  · exact renc_eight enc r hr hk hri _ rfl (fun q o => by rw [halfE_size, if_pos h5]) w
  · exact renc_let enc r hr hk hri _ rfl (fun q o => by rw [halfE_size, if_neg h5]) w
end Go.Proofs.Ytieloocmkgficaa
