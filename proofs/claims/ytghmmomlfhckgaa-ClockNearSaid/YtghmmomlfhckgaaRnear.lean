/-
  Near: the document's; ClockNear: the walk.
-/
import Derived.Test.YtghmmomlfhckgaaEx
namespace Go.Proofs.Ytghmmomlfhckgaa
open Go.RowKit
set_option linter.unusedVariables false
set_option linter.unusedSimpArgs false
theorem rnear_date (s : ByteArray) (t : Int) (w : World) (h : t < 0 ∨ 3155759999 < t) : Calls Try.prog 19 #[.string s, .int .i64 t] w fun e w' => e = .returned (.tuple #[.int .i64 0, .int .i64 80]) ∧ Below w.heap.size w w' := by
  rcases h with h | h
  all_goals
    go_enter Try.func19, Try.ntmps19
    go_wp2
    go_ret2
    exact ⟨rfl, Below.refl _ _⟩
theorem rnear_len (s : ByteArray) (t : Int) (w : World) (h0 : 0 ≤ t) (h1 : t ≤ 3155759999) (h : s.size ≠ 10) : Calls Try.prog 19 #[.string s, .int .i64 t] w fun e w' => e = .returned (.tuple #[.int .i64 0, .int .i64 81]) ∧ Below w.heap.size w w' := by
  have f : ((s.size : Int) == 10) = false := by rw [beq_eq_false_iff_ne]; omega
  go_enter Try.func19, Try.ntmps19
  go_wp2
  go_ret2
  exact ⟨rfl, Below.refl _ _⟩
theorem rnear_bad (st : ByteArray) (t : Int) (w : World) (h0 : 0 ≤ t) (h1 : t ≤ 3155759999) (hs : st.size = 10) (hd : ¬ allD st) : Calls Try.prog 19 #[.string st, .int .i64 t] w fun e w' => e = .returned (.tuple #[.int .i64 0, .int .i64 81]) ∧ Below w.heap.size w w' := by
  have HD := Lib.hid hd
  clear hd
  have f : ((st.size : Int) == 10) = true := by rw [beq_iff_eq]; omega
  go_enter Try.func19, Try.ntmps19
  go_wp2
  go_loop [6] (fun i => ∃ k : Nat, k ≤ 10 ∧ i = .int .i64 k ∧ Hid (∀ j, j < k → 48 ≤ bt st j ∧ bt st j ≤ 57)) (fun i => 10 - (intOf i).toNat)
  case atStart => exact ⟨0, by omega, rfl, fun j h => by omega⟩
  case round =>
    obtain ⟨k, hk, rfl, hj⟩ := hrel
    by_cases hlt : k < 10
    · have hl2 : k < st.size := by omega
      by_cases g0 : (48 : Int) ≤ ((st[k]'hl2).toNat : Int)
      · by_cases g1 : ((st[k]'hl2).toNat : Int) ≤ 57
        · go_wp2
          go_round
          case rel =>
            refine ⟨k + 1, by omega, by go_num, fun j h => ?_⟩
            by_cases e : j = k
            · rw [e, ← bt_get st k hl2]; exact ⟨g0, g1⟩
            · exact hj.out j (by omega)
          case measure => simp [intOf]; omega
        · go_wp2
          go_ret2
          exact ⟨rfl, Below.refl _ _⟩
      · go_wp2
        go_ret2
        exact ⟨rfl, Below.refl _ _⟩
    · exact absurd (fun j h => hj.out j (by omega)) HD.out
set_option maxRecDepth 100000 in
set_option maxHeartbeats 3200000 in
theorem rnear_ok (st : ByteArray) (t : Int) (w : World) (h0 : 0 ≤ t) (h1 : t ≤ 3155759999) (hs : st.size = 10) (hd : allD st) : Calls Try.prog 19 #[.string st, .int .i64 t] w (NearP (stampF st t) w) := by
  have HDD := Lib.hid hd
  have fs : ((st.size : Int) == 10) = true := by rw [beq_iff_eq]; omega
  have B0 := twoV_bd hd 0 (by omega)
  have B2 := twoV_bd hd 2 (by omega)
  have B4 := twoV_bd hd 4 (by omega)
  have B6 := twoV_bd hd 6 (by omega)
  have B8 := twoV_bd hd 8 (by omega)
  clear hd
  unfold stampF
  obtain ⟨m, em⟩ : ∃ m, twoV st 0 = m := ⟨_, rfl⟩
  obtain ⟨d, ed⟩ : ∃ d, twoV st 2 = d := ⟨_, rfl⟩
  obtain ⟨h, eh⟩ : ∃ h, twoV st 4 = h := ⟨_, rfl⟩
  obtain ⟨i, ei⟩ : ∃ i, twoV st 6 = i := ⟨_, rfl⟩
  obtain ⟨s, es⟩ : ∃ s, twoV st 8 = s := ⟨_, rfl⟩
  rw [em, ed, eh, ei, es]
  rw [em] at B0; rw [ed] at B2; rw [eh] at B4; rw [ei] at B6; rw [es] at B8
  have EM := Lib.hid em
  have ED := Lib.hid ed
  have EH := Lib.hid eh
  have EI := Lib.hid ei
  have ES := Lib.hid es
  clear em ed eh ei es
  have f1 : decide (t < 0) = false := by simp; omega
  have f2 : decide (3155759999 < t) = false := by simp; omega
  go_enter Try.func19, Try.ntmps19
  go_wp2
  go_loop [6] (fun i => ∃ k : Nat, k ≤ 10 ∧ i = .int .i64 k) (fun i => 10 - (intOf i).toNat)
  case atStart => exact ⟨0, by omega, rfl⟩
  case round =>
    obtain ⟨z, hz, rfl⟩ := hrel
    by_cases hlt : z < 10
    · have hl2 : z < st.size := by omega
      have b := HDD.out z hl2
      have b0 : (48 : Int) ≤ ((st[z]'hl2).toNat : Int) := by rw [bt_get]; exact b.1
      have b1 : ((st[z]'hl2).toNat : Int) ≤ 57 := by rw [bt_get]; exact b.2
      clear b
      go_wp2
      go_round
      case rel => exact ⟨z + 1, by omega, by go_num⟩
      case measure => simp [intOf]; omega
    · have e : z = 10 := by omega
      subst e
      go_wp2
      go_loopg [7, 8] 100 (fun K q y wr => ∃ k : Nat, K = 100 - k ∧ k ≤ 100 ∧ q = .int .i64 (nearF t m d h i s k) ∧ y = .int .i64 (2000 + (k : Int)) ∧ Below w.heap.size w wr)
      case atStart => exact ⟨0, by omega, by omega, rfl, rfl, Below.refl _ _⟩
      case round =>
        obtain ⟨k, hK, hk, rfl, rfl, hb⟩ := hrel
        have HK := Lib.hid hK
        clear hK
        have bd := nearF_bd t m d h i s k
        have NV := near_v t m d h i s (2000 + (k : Int)) k rfl
        have NN := near_n t m d h i s (2000 + (k : Int)) k rfl
        have HNV := Lib.hid NV
        have HNN := Lib.hid NN
        clear NV NN
        obtain ⟨b, hbe⟩ : ∃ b, nearF t m d h i s k = b := ⟨_, rfl⟩
        rw [hbe] at bd
        rw [hbe]
        have HBE := Lib.hid hbe
        clear hbe
        obtain ⟨bd0, bd1⟩ := bd
        by_cases hlt : k < 100
        · by_cases v : vldP (2000 + (k : Int)) m d h i s
          · have nb := ofV_bd v
            obtain ⟨N, hN⟩ : ∃ N, ofV (2000 + (k : Int)) m d h i s = N := ⟨_, rfl⟩
            rw [hN] at nb
            have HN := Lib.hid hN
            have HV := Lib.hid v
            obtain ⟨nb0, nb1⟩ := nb
            clear v hN
            by_cases hneg : b < 0
            · have g1 : decide (b < 0) = true := by simp; omega
              go_wp2_with (first
                | (go_at_call_of 41 (Value.int IntKind.i64 0); refine (number_0 st _ (by omega) HDD.out).mono ?_; rintro e va ⟨rfl, hva⟩; rw [EM.out]) | (go_at_call_of 41 (Value.int IntKind.i64 2); refine (number_2 st _ (by omega) HDD.out).mono ?_; rintro e vb ⟨rfl, hvb⟩; rw [ED.out]) | (go_at_call_of 41 (Value.int IntKind.i64 4); refine (number_4 st _ (by omega) HDD.out).mono ?_; rintro e vc ⟨rfl, hvc⟩; rw [EH.out]) | (go_at_call_of 41 (Value.int IntKind.i64 6); refine (number_6 st _ (by omega) HDD.out).mono ?_; rintro e vd ⟨rfl, hvd⟩; rw [EI.out]) | (go_at_call_of 41 (Value.int IntKind.i64 8); refine (number_8 st _ (by omega) HDD.out).mono ?_; rintro e ve ⟨rfl, hve⟩; rw [ES.out])
                | (go_at_call 13; refine (rof_v _ _ _ _ _ _ _ HV.out).mono ?_; rintro e w2 ⟨rfl, hb2⟩; rw [HN.out]))
              have ia := hb.trans (hva.mono hb.size); have ib := ia.trans (hvb.mono ia.size); have ic := ib.trans (hvc.mono ib.size); have id' := ic.trans (hvd.mono ic.size); have ie := id'.trans (hve.mono id'.size); have hi := ie.trans (hb2.mono ie.size)
              go_roundg (100 - (k + 1))
              case measure => have := HK.out; omega
              case rel => exact ⟨k + 1, rfl, by omega, by rw [HNV.out HV.out (by rw [HBE.out]; omega), HN.out], by go_num, hi⟩
            · have g1 : decide (b < 0) = false := by simp; omega
              by_cases hf : farV N t < farV b t
              all_goals
                go_wp2_with (first
                  | (go_at_call_of 41 (Value.int IntKind.i64 0); refine (number_0 st _ (by omega) HDD.out).mono ?_; rintro e va ⟨rfl, hva⟩; rw [EM.out]) | (go_at_call_of 41 (Value.int IntKind.i64 2); refine (number_2 st _ (by omega) HDD.out).mono ?_; rintro e vb ⟨rfl, hvb⟩; rw [ED.out]) | (go_at_call_of 41 (Value.int IntKind.i64 4); refine (number_4 st _ (by omega) HDD.out).mono ?_; rintro e vc ⟨rfl, hvc⟩; rw [EH.out]) | (go_at_call_of 41 (Value.int IntKind.i64 6); refine (number_6 st _ (by omega) HDD.out).mono ?_; rintro e vd ⟨rfl, hvd⟩; rw [EI.out]) | (go_at_call_of 41 (Value.int IntKind.i64 8); refine (number_8 st _ (by omega) HDD.out).mono ?_; rintro e ve ⟨rfl, hve⟩; rw [ES.out])
                  | (go_at_call 13; refine (rof_v _ _ _ _ _ _ _ HV.out).mono ?_; rintro e w2 ⟨rfl, hb2⟩; rw [HN.out])
                  | (go_at_call_of 42 (Value.int IntKind.i64 N); refine (rfar_any N t _ (by omega) (by omega) (by omega) (by omega)).mono ?_; rintro e w' ⟨rfl, rfl⟩)
                  | (go_at_call_of 42 (Value.int IntKind.i64 b); refine (rfar_any b t _ (by omega) (by omega) (by omega) (by omega)).mono ?_; rintro e w' ⟨rfl, rfl⟩))
                have ia := hb.trans (hva.mono hb.size); have ib := ia.trans (hvb.mono ia.size); have ic := ib.trans (hvc.mono ib.size); have id' := ic.trans (hvd.mono ic.size); have ie := id'.trans (hve.mono id'.size); have hi := ie.trans (hb2.mono ie.size)
                go_roundg (100 - (k + 1))
                case measure => have := HK.out; omega
                case rel => exact ⟨k + 1, rfl, by omega, by first | rw [HNV.out HV.out (by rw [HBE.out, HN.out]; exact .inr hf), HN.out] | rw [HNN.out (by rw [HBE.out, HN.out]; omega), HBE.out], by go_num, hi⟩
          · have HV := Lib.hid (vldB_no v)
            have HW := Lib.hid v
            clear v
            go_wp2_with (first
              | (go_at_call_of 41 (Value.int IntKind.i64 0); refine (number_0 st _ (by omega) HDD.out).mono ?_; rintro e va ⟨rfl, hva⟩; rw [EM.out]) | (go_at_call_of 41 (Value.int IntKind.i64 2); refine (number_2 st _ (by omega) HDD.out).mono ?_; rintro e vb ⟨rfl, hvb⟩; rw [ED.out]) | (go_at_call_of 41 (Value.int IntKind.i64 4); refine (number_4 st _ (by omega) HDD.out).mono ?_; rintro e vc ⟨rfl, hvc⟩; rw [EH.out]) | (go_at_call_of 41 (Value.int IntKind.i64 6); refine (number_6 st _ (by omega) HDD.out).mono ?_; rintro e vd ⟨rfl, hvd⟩; rw [EI.out]) | (go_at_call_of 41 (Value.int IntKind.i64 8); refine (number_8 st _ (by omega) HDD.out).mono ?_; rintro e ve ⟨rfl, hve⟩; rw [ES.out])
              | (go_at_call 13; refine (rof_no _ _ _ _ _ _ _ HV.out).mono ?_; rintro e w2 ⟨rfl, hb2⟩))
            have ia := hb.trans (hva.mono hb.size); have ib := ia.trans (hvb.mono ia.size); have ic := ib.trans (hvc.mono ib.size); have id' := ic.trans (hvd.mono ic.size); have ie := id'.trans (hve.mono id'.size); have hi := ie.trans (hb2.mono ie.size)
            go_roundg (100 - (k + 1))
            case measure => have := HK.out; omega
            case rel => exact ⟨k + 1, rfl, by omega, by rw [HNN.out (fun x => HW.out x.1), HBE.out], by go_num, hi⟩
        · have e : k = 100 := by omega
          subst e
          by_cases hneg : b < 0
          · go_wp2
            go_ret2
            exact ⟨by rw [HBE.out, if_pos hneg, if_pos hneg]; rfl, hb⟩
          · go_wp2
            go_ret2
            exact ⟨by rw [HBE.out, if_neg (by omega), if_neg (by omega)]; rfl, hb⟩
theorem rnear_any (st : ByteArray) (t : Int) (w : World) (hs : st.size ≤ 9223372036854775807) : Calls Try.prog 19 #[.string st, .int .i64 t] w fun e w' => e = .returned (.tuple #[.int .i64 (nearV st t), .int .i64 (nearE st t)]) ∧ Below w.heap.size w w' := by
  by_cases h0 : 0 ≤ t ∧ t ≤ 3155759999
  · by_cases h1 : okD st ∧ st.size = 10
    · have e1 : nearV st t = (if stampF st t < 0 then 0 else stampF st t) := by
        unfold nearV
        by_cases h2 : stampF st t < 0
        · rw [if_pos h2, if_neg (fun x => by omega)]
        · rw [if_neg h2, if_pos ⟨h0, h1, by omega⟩]
      have e2 : nearE st t = (if stampF st t < 0 then 81 else 0) := by
        unfold nearE
        rw [if_neg (fun x => x h0), if_neg (fun x => x h1)]
      rw [e1, e2]
      exact rnear_ok st t w h0.1 h0.2 h1.2 ((okD_iff st).1 h1.1)
    · have e1 : nearV st t = 0 := if_neg (fun x => h1 x.2.1)
      have e2 : nearE st t = 81 := by
        unfold nearE
        rw [if_neg (fun x => x h0), if_pos h1]
      rw [e1, e2]
      by_cases hl : st.size = 10
      · exact rnear_bad st t w h0.1 h0.2 hl (fun x => h1 ⟨(okD_iff st).2 x, hl⟩)
      · exact rnear_len st t w h0.1 h0.2 hl
  · have e1 : nearV st t = 0 := if_neg (fun x => h0 x.1)
    have e2 : nearE st t = 80 := if_pos h0
    rw [e1, e2]
    exact rnear_date st t w (by omega)
theorem near_walk (st : ByteArray) (hs : st.size ≤ 9223372036854775807) (t : Int) (_ : -9223372036854775808 ≤ t) (_ : t ≤ 9223372036854775807) {w : World} : Calls Try.prog 4 #[.string st, .int .i64 t] w fun e w' => e = .returned (.bool true) ∧ Below w.heap.size w w' := by
  go_enter Try.func4, Try.ntmps4
  go_wp2_with (first
    | (go_at_call 11; refine (examples_ok _).mono ?_; rintro e w1 ⟨rfl, hb1⟩)
    | (go_at_call 18; refine (near_any st t _ hs).mono ?_; rintro e w2 ⟨rfl, hb2⟩)
    | (go_at_call 19; refine (rnear_any st t _ hs).mono ?_; rintro e w3 ⟨rfl, hb3⟩))
  have i2 := hb1.trans (hb2.mono hb1.size)
  have i3 := i2.trans (hb3.mono i2.size)
  go_ret
  exact ⟨rfl, i3⟩
end Go.Proofs.Ytghmmomlfhckgaa
