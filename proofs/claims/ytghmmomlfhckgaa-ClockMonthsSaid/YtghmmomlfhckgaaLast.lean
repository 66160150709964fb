/-
  Last: the program's and the document's; ClockLast: the walk.
-/
import Derived.Test.YtghmmomlfhckgaaEx
namespace Go.Proofs.Ytghmmomlfhckgaa
open Go.RowKit
set_option linter.unusedVariables false
set_option linter.unusedSimpArgs false
/-- Year and month of an expiry, and the moment at which it ends. -/
def exY (s : ByteArray) : Int := 2000 + twoV s 0
def okX (s : ByteArray) : Prop := okD s ∧ s.size = 4 ∧ 1 ≤ twoV s 2 ∧ twoV s 2 ≤ 12
instance (s : ByteArray) : Decidable (okX s) := by unfold okX; infer_instance
def lastV (s : ByteArray) : Int := if okX s then (bgn (exY s) + ahd (exY s) (twoV s 2 + 1)) * 86400 - 1 else 0
def lastE (s : ByteArray) : Int := if okX s then 0 else 53
theorem last_bad (s : ByteArray) (w : World) (hs : s.size ≤ 9223372036854775807) (h : ¬ (allD s ∧ s.size = 4)) : Calls Try.prog 25 #[.string s] w fun e w' => e = .returned (.tuple #[.int .i64 0, .int .i64 53]) ∧ Below w.heap.size w w' := by
  have C : ∀ w, Calls Try.prog 38 #[.string s, .int .i64 4] w fun e w' => e = .returned (.bool false) ∧ w = w' := by
    intro w
    by_cases hd : allD s
    · have e : ((s.size : Int) == 4) = false := by rw [beq_eq_false_iff_ne]; intro e; exact h ⟨hd, by omega⟩
      exact (digits_all s 4 w hs hd).mono fun e' w' ⟨he, hw⟩ => ⟨by rw [he, e], hw⟩
    · exact digits_bad s 4 w hs hd
  have HC := Lib.hid C
  clear C h
  go_enter Try.func25, Try.ntmps25
  go_wp2_with (go_at_call 38; refine (HC.out _).mono ?_; rintro e w' ⟨rfl, rfl⟩)
  go_ret2
  exact ⟨rfl, Below.refl _ _⟩
set_option maxHeartbeats 1600000 in
theorem last_ok (st : ByteArray) (w : World) (hs : st.size = 4) (hd : allD st) : Calls Try.prog 25 #[.string st] w fun e w' => e = .returned (.tuple #[.int .i64 (if 1 ≤ twoV st 2 ∧ twoV st 2 ≤ 12 then (bgn (exY st) + ahd (exY st) (twoV st 2 + 1)) * 86400 - 1 else 0), .int .i64 (if 1 ≤ twoV st 2 ∧ twoV st 2 ≤ 12 then 0 else 53)]) ∧ Below w.heap.size w w' := by
  have C : ∀ w, Calls Try.prog 38 #[.string st, .int .i64 4] w fun e w' => e = .returned (.bool true) ∧ w = w' := by
    intro w
    exact (digits_all st 4 w (by omega) hd).mono fun e' w' ⟨he, hw⟩ => ⟨by rw [he, hs]; rfl, hw⟩
  have HC := Lib.hid C
  have HDD := Lib.hid hd
  have B0 := twoV_bd hd 0 (by omega)
  have B2 := twoV_bd hd 2 (by omega)
  clear hd C
  unfold exY
  obtain ⟨y, ey⟩ : ∃ y, twoV st 0 = y := ⟨_, rfl⟩
  obtain ⟨m, em⟩ : ∃ m, twoV st 2 = m := ⟨_, rfl⟩
  rw [em, ey]
  rw [ey] at B0; rw [em] at B2
  have EY := Lib.hid ey
  have EM := Lib.hid em
  clear ey em
  have p0 := bgn_lo (2000 + y) (by omega)
  have p1 := bgn_hi (2000 + y) (by omega) (by omega)
  have p2 := ahd_lo (2000 + y) (m + 1)
  have p3 := ahd_hi (2000 + y) (m + 1)
  by_cases hm : 1 ≤ m ∧ m ≤ 12
  · rw [if_pos hm, if_pos hm]
    obtain ⟨m0, m1⟩ := hm
    have g0 : decide (m < 1) = false := by simp; omega
    have g1 : decide (12 < m) = false := by simp; omega
    go_enter Try.func25, Try.ntmps25
    go_wp2_with (first
      | (go_at_call 38; refine (HC.out _).mono ?_; rintro e w' ⟨rfl, rfl⟩)
      | (go_at_call_of 39 (Value.int IntKind.i64 0); refine (two_0 st _ (by omega) HDD.out).mono ?_; rintro e va ⟨rfl, hva⟩; rw [EY.out])
      | (go_at_call_of 39 (Value.int IntKind.i64 2); refine (two_2 st _ (by omega) HDD.out).mono ?_; rintro e vb ⟨rfl, hvb⟩; rw [EM.out])
      | (go_at_call 34; refine (begins_any _ _ (by omega) (by omega)).mono ?_; rintro e w' ⟨rfl, rfl⟩)
      | (go_at_call 35; refine (ahead_any _ _ _).mono ?_; rintro e w' ⟨rfl, rfl⟩))
    go_ret2
    exact ⟨rfl, hva.trans (hvb.mono hva.size)⟩
  · rw [if_neg hm, if_neg hm]
    rcases (show m < 1 ∨ 12 < m by omega) with h | h
    all_goals
      go_enter Try.func25, Try.ntmps25
      go_wp2_with (first
        | (go_at_call 38; refine (HC.out _).mono ?_; rintro e w' ⟨rfl, rfl⟩)
        | (go_at_call_of 39 (Value.int IntKind.i64 0); refine (two_0 st _ (by omega) HDD.out).mono ?_; rintro e va ⟨rfl, hva⟩; rw [EY.out])
        | (go_at_call_of 39 (Value.int IntKind.i64 2); refine (two_2 st _ (by omega) HDD.out).mono ?_; rintro e vb ⟨rfl, hvb⟩; rw [EM.out]))
      go_ret2
      exact ⟨rfl, hva.trans (hvb.mono hva.size)⟩
theorem lastV_ok (s : ByteArray) (hs : s.size = 4) (hd : allD s) : lastV s = (if 1 ≤ twoV s 2 ∧ twoV s 2 ≤ 12 then (bgn (exY s) + ahd (exY s) (twoV s 2 + 1)) * 86400 - 1 else 0) := by
  unfold lastV
  by_cases h : 1 ≤ twoV s 2 ∧ twoV s 2 ≤ 12
  · rw [if_pos h, if_pos ⟨(okD_iff s).2 hd, hs, h⟩]
  · rw [if_neg h, if_neg (fun x => h x.2.2)]
theorem lastE_ok (s : ByteArray) (hs : s.size = 4) (hd : allD s) : lastE s = (if 1 ≤ twoV s 2 ∧ twoV s 2 ≤ 12 then 0 else 53) := by
  unfold lastE
  by_cases h : 1 ≤ twoV s 2 ∧ twoV s 2 ≤ 12
  · rw [if_pos h, if_pos ⟨(okD_iff s).2 hd, hs, h⟩]
  · rw [if_neg h, if_neg (fun x => h x.2.2)]
theorem last_any (s : ByteArray) (w : World) (hs : s.size ≤ 9223372036854775807) : Calls Try.prog 25 #[.string s] w fun e w' => e = .returned (.tuple #[.int .i64 (lastV s), .int .i64 (lastE s)]) ∧ Below w.heap.size w w' := by
  by_cases h : allD s ∧ s.size = 4
  · rw [lastV_ok s h.2 h.1, lastE_ok s h.2 h.1]
    exact last_ok s w h.2 h.1
  · have e1 : lastV s = 0 := if_neg (fun x => h ⟨(okD_iff s).1 x.1, x.2.1⟩)
    have e2 : lastE s = 53 := if_neg (fun x => h ⟨(okD_iff s).1 x.1, x.2.1⟩)
    rw [e1, e2]
    exact last_bad s w hs h
theorem rlast_len (s : ByteArray) (w : World) (hs : s.size ≤ 9223372036854775807) (h : s.size ≠ 4) : Calls Try.prog 26 #[.string s] w fun e w' => e = .returned (.tuple #[.int .i64 0, .int .i64 53]) ∧ Below w.heap.size w w' := by
  have f : ((s.size : Int) == 4) = false := by rw [beq_eq_false_iff_ne]; omega
  go_enter Try.func26, Try.ntmps26
  go_wp2
  go_ret2
  exact ⟨rfl, Below.refl _ _⟩
theorem rlast_bad (st : ByteArray) (w : World) (hs : st.size = 4) (hd : ¬ allD st) : Calls Try.prog 26 #[.string st] w fun e w' => e = .returned (.tuple #[.int .i64 0, .int .i64 53]) ∧ Below w.heap.size w w' := by
  have HD := Lib.hid hd
  clear hd
  have f : ((st.size : Int) == 4) = true := by rw [beq_iff_eq]; omega
  go_enter Try.func26, Try.ntmps26
  go_wp2
  go_loop [4] (fun i => ∃ k : Nat, k ≤ 4 ∧ i = .int .i64 k ∧ Hid (∀ j, j < k → 48 ≤ bt st j ∧ bt st j ≤ 57)) (fun i => 4 - (intOf i).toNat)
  case atStart => exact ⟨0, by omega, rfl, fun j h => by omega⟩
  case round =>
    obtain ⟨k, hk, rfl, hj⟩ := hrel
    by_cases hlt : k < 4
    · have hl2 : k < st.size := by omega
      by_cases g0 : (48 : Int) ≤ ((st[k]'hl2).toNat : Int)
      · by_cases g1 : ((st[k]'hl2).toNat : Int) ≤ 57
        · go_wp2
          go_round
          case rel =>
            refine ⟨k + 1, by omega, by go_num, fun j h => ?_⟩
            by_cases e : j = k
            · rw [e, ← bt_get st k hl2]; exact ⟨g0, g1⟩
            · exact hj.out j (by omega)
          case measure => simp [intOf]; omega
        · go_wp2
          go_ret2
          exact ⟨rfl, Below.refl _ _⟩
      · go_wp2
        go_ret2
        exact ⟨rfl, Below.refl _ _⟩
    · exact absurd (fun j h => hj.out j (by omega)) HD.out
set_option maxHeartbeats 1600000 in
theorem rlast_ok (st : ByteArray) (w : World) (hs : st.size = 4) (hd : allD st) : Calls Try.prog 26 #[.string st] w fun e w' => e = .returned (.tuple #[.int .i64 (if 1 ≤ twoV st 2 ∧ twoV st 2 ≤ 12 then (bgn (exY st) + ahd (exY st) (twoV st 2 + 1)) * 86400 - 1 else 0), .int .i64 (if 1 ≤ twoV st 2 ∧ twoV st 2 ≤ 12 then 0 else 53)]) ∧ Below w.heap.size w w' := by
  have HDD := Lib.hid hd
  have fs : ((st.size : Int) == 4) = true := by rw [beq_iff_eq]; omega
  have B0 := twoV_bd hd 0 (by omega)
  have B2 := twoV_bd hd 2 (by omega)
  clear hd
  unfold exY
  obtain ⟨y, ey⟩ : ∃ y, twoV st 0 = y := ⟨_, rfl⟩
  obtain ⟨m, em⟩ : ∃ m, twoV st 2 = m := ⟨_, rfl⟩
  rw [em, ey]
  rw [ey] at B0; rw [em] at B2
  have EY := Lib.hid ey
  have EM := Lib.hid em
  clear ey em
  obtain ⟨V, eV⟩ : ∃ V, (if 1 ≤ m ∧ m ≤ 12 then (bgn (2000 + y) + ahd (2000 + y) (m + 1)) * 86400 - 1 else 0) = V := ⟨_, rfl⟩
  obtain ⟨E, eE⟩ : ∃ E : Int, (if 1 ≤ m ∧ m ≤ 12 then 0 else 53) = E := ⟨_, rfl⟩
  rw [eV, eE]
  have EV := Lib.hid eV
  have EE := Lib.hid eE
  clear eV eE
  go_enter Try.func26, Try.ntmps26
  go_wp2
  go_loop [4] (fun i => ∃ k : Nat, k ≤ 4 ∧ i = .int .i64 k) (fun i => 4 - (intOf i).toNat)
  case atStart => exact ⟨0, by omega, rfl⟩
  case round =>
    obtain ⟨z, hz, rfl⟩ := hrel
    by_cases hlt : z < 4
    · have hl2 : z < st.size := by omega
      have b := HDD.out z hl2
      have b0 : (48 : Int) ≤ ((st[z]'hl2).toNat : Int) := by rw [bt_get]; exact b.1
      have b1 : ((st[z]'hl2).toNat : Int) ≤ 57 := by rw [bt_get]; exact b.2
      clear b
      go_wp2
      go_round
      case rel => exact ⟨z + 1, by omega, by go_num⟩
      case measure => simp [intOf]; omega
    · have e : z = 4 := by omega
      subst e
      by_cases hm : 1 ≤ m ∧ m ≤ 12
      · have hm' := Lib.hid hm
        obtain ⟨m0, m1⟩ := hm
        have g0 : decide (m < 1) = false := by simp; omega
        have g1 : decide (12 < m) = false := by simp; omega
        have v : vldP (2000 + y) m (dim (2000 + y) m) 23 59 59 := by
          have q := dim_lo (2000 + y) m
          unfold vldP
          refine ⟨?_, ?_, ?_, ?_, ?_, ?_, ?_, ?_, ?_, ?_, ?_, ?_⟩ <;> omega
        have ev : ofV (2000 + y) m (dim (2000 + y) m) 23 59 59 = (bgn (2000 + y) + ahd (2000 + y) (m + 1)) * 86400 - 1 := by
          unfold ofV
          rw [if_pos v, ahd_succ _ _ m0 m1]
          omega
        have HV := Lib.hid v
        have HE := Lib.hid ev
        clear v ev
        go_wp2_with (first
          | (go_at_call_of 41 (Value.int IntKind.i64 0); refine (number_0 st _ (by omega) HDD.out).mono ?_; rintro e va ⟨rfl, hva⟩; rw [EY.out])
          | (go_at_call_of 41 (Value.int IntKind.i64 2); refine (number_2 st _ (by omega) HDD.out).mono ?_; rintro e vb ⟨rfl, hvb⟩; rw [EM.out])
          | (go_at_call 37; refine (days_any _ _ _).mono ?_; rintro e w' ⟨rfl, rfl⟩)
          | (go_at_call 13; refine (rof_v _ _ _ _ _ _ _ HV.out).mono ?_; rintro e w2 ⟨rfl, hb2⟩; rw [HE.out]))
        go_ret2
        exact ⟨by rw [← EV.out, ← EE.out, if_pos hm'.out, if_pos hm'.out]; rfl, (hva.trans (hvb.mono hva.size)).trans (hb2.mono (hva.trans (hvb.mono hva.size)).size)⟩
      · have hm' := Lib.hid hm
        rcases (show m < 1 ∨ 12 < m by omega) with h | h
        all_goals
          go_wp2_with (first
            | (go_at_call_of 41 (Value.int IntKind.i64 0); refine (number_0 st _ (by omega) HDD.out).mono ?_; rintro e va ⟨rfl, hva⟩; rw [EY.out])
            | (go_at_call_of 41 (Value.int IntKind.i64 2); refine (number_2 st _ (by omega) HDD.out).mono ?_; rintro e vb ⟨rfl, hvb⟩; rw [EM.out]))
          go_ret2
          exact ⟨by rw [← EV.out, ← EE.out, if_neg hm'.out, if_neg hm'.out]; rfl, hva.trans (hvb.mono hva.size)⟩
theorem rlast_any (s : ByteArray) (w : World) (hs : s.size ≤ 9223372036854775807) : Calls Try.prog 26 #[.string s] w fun e w' => e = .returned (.tuple #[.int .i64 (lastV s), .int .i64 (lastE s)]) ∧ Below w.heap.size w w' := by
  by_cases hl : s.size = 4
  · by_cases hd : allD s
    · rw [lastV_ok s hl hd, lastE_ok s hl hd]
      exact rlast_ok s w hl hd
    · have e1 : lastV s = 0 := if_neg (fun x => hd ((okD_iff s).1 x.1))
      have e2 : lastE s = 53 := if_neg (fun x => hd ((okD_iff s).1 x.1))
      rw [e1, e2]
      exact rlast_bad s w hl hd
  · have e1 : lastV s = 0 := if_neg (fun x => hl x.2.1)
    have e2 : lastE s = 53 := if_neg (fun x => hl x.2.1)
    rw [e1, e2]
    exact rlast_len s w hs hl
theorem last_walk (s : ByteArray) (hs : s.size ≤ 9223372036854775807) {w : World} : Calls Try.prog 8 #[.string s] w fun e w' => e = .returned (.bool true) ∧ Below w.heap.size w w' := by
  go_enter Try.func8, Try.ntmps8
  go_wp2_with (first
    | (go_at_call 11; refine (examples_ok _).mono ?_; rintro e w1 ⟨rfl, hb1⟩)
    | (go_at_call 25; refine (last_any s _ hs).mono ?_; rintro e w2 ⟨rfl, hb2⟩)
    | (go_at_call 26; refine (rlast_any s _ hs).mono ?_; rintro e w3 ⟨rfl, hb3⟩))
  have i2 := hb1.trans (hb2.mono hb1.size)
  have i3 := i2.trans (hb3.mono i2.size)
  go_ret
  exact ⟨rfl, i3⟩
end Go.Proofs.Ytghmmomlfhckgaa
