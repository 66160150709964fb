/-
  Near: the program's and the document's.
-/
import Derived.Test.YtghmmomlfhckgaaText
namespace Go.Proofs.Ytghmmomlfhckgaa
open Go.RowKit
set_option linter.unusedVariables false
set_option linter.unusedSimpArgs false
/-- The best of the first k years. -/
def nearF (t m d h i s : Int) : Nat → Int
  | 0 => -1
  | k + 1 => if vldP (2000 + k) m d h i s ∧ (nearF t m d h i s k < 0 ∨ farV (ofV (2000 + k) m d h i s) t < farV (nearF t m d h i s k) t) then ofV (2000 + k) m d h i s else nearF t m d h i s k
theorem nearF_bd (t m d h i s : Int) (k : Nat) : -1 ≤ nearF t m d h i s k ∧ nearF t m d h i s k ≤ 3155759999 := by
  induction k with
  | zero => unfold nearF; omega
  | succ k ih =>
    unfold nearF
    split
    · rename_i h
      have := ofV_bd h.1
      omega
    · exact ih
theorem near_v (t m d h i s : Int) (y : Int) (k : Nat) (hy : y = 2000 + k) (v : vldP y m d h i s) (h1 : nearF t m d h i s k < 0 ∨ farV (ofV y m d h i s) t < farV (nearF t m d h i s k) t) : nearF t m d h i s (k + 1) = ofV y m d h i s := by
  subst hy; exact if_pos ⟨v, h1⟩
theorem near_n (t m d h i s : Int) (y : Int) (k : Nat) (hy : y = 2000 + k) (h1 : ¬ (vldP y m d h i s ∧ (nearF t m d h i s k < 0 ∨ farV (ofV y m d h i s) t < farV (nearF t m d h i s k) t))) : nearF t m d h i s (k + 1) = nearF t m d h i s k := by
  subst hy; exact if_neg h1
theorem of_v (y m d h i s : Int) (w : World) (v : vldP y m d h i s) : Calls Try.prog 12 #[.agg #[.int .i64 y, .int .i64 m, .int .i64 d, .int .i64 h, .int .i64 i, .int .i64 s]] w fun e w' => e = .returned (.tuple #[.int .i64 (ofV y m d h i s), .int .i64 0]) ∧ Below w.heap.size w w' := by
  have e1 : ofV y m d h i s = (bgn y + ahd y m + d - 1) * 86400 + h * 3600 + i * 60 + s := if_pos v
  rw [e1]; exact of_yes y m d h i s w v
theorem rof_v (y m d h i s : Int) (w : World) (v : vldP y m d h i s) : Calls Try.prog 13 #[.agg #[.int .i64 y, .int .i64 m, .int .i64 d, .int .i64 h, .int .i64 i, .int .i64 s]] w fun e w' => e = .returned (.tuple #[.int .i64 (ofV y m d h i s), .int .i64 0]) ∧ Below w.heap.size w w' := by
  have e1 : ofV y m d h i s = (bgn y + ahd y m + d - 1) * 86400 + h * 3600 + i * 60 + s := if_pos v
  rw [e1]; exact rof_yes y m d h i s w v
/-- Are all bytes digits? (decidable) -/
def okD (s : ByteArray) : Prop := ∀ k : Fin s.size, 48 ≤ bt s k ∧ bt s k ≤ 57
instance (s : ByteArray) : Decidable (okD s) := by unfold okD; infer_instance
theorem okD_iff (s : ByteArray) : okD s ↔ allD s := ⟨fun h k hk => h ⟨k, hk⟩, fun h k => h k.1 k.2⟩
/-- What Near tells: the moment, the error. -/
def stampF (s : ByteArray) (t : Int) : Int := nearF t (twoV s 0) (twoV s 2) (twoV s 4) (twoV s 6) (twoV s 8) 100

def NearP (x : Int) (w : World) (e : Ending) (w' : World) : Prop := e = .returned (.tuple #[.int .i64 (if x < 0 then 0 else x), .int .i64 (if x < 0 then 81 else 0)]) ∧ Below w.heap.size w w'
theorem near_date (s : ByteArray) (t : Int) (w : World) (h : t < 0 ∨ 3155759999 < t) : Calls Try.prog 18 #[.string s, .int .i64 t] w fun e w' => e = .returned (.tuple #[.int .i64 0, .int .i64 80]) ∧ Below w.heap.size w w' := by
  rcases h with h | h
  all_goals
    go_enter Try.func18, Try.ntmps18
    go_wp2
    go_ret2
    exact ⟨rfl, Below.refl _ _⟩
theorem near_bad (s : ByteArray) (t : Int) (w : World) (h0 : 0 ≤ t) (h1 : t ≤ 3155759999) (hs : s.size ≤ 9223372036854775807) (h : ¬ (allD s ∧ s.size = 10)) : Calls Try.prog 18 #[.string s, .int .i64 t] w fun e w' => e = .returned (.tuple #[.int .i64 0, .int .i64 81]) ∧ Below w.heap.size w w' := by
  have C : ∀ w, Calls Try.prog 38 #[.string s, .int .i64 10] w fun e w' => e = .returned (.bool false) ∧ w = w' := by
    intro w
    by_cases hd : allD s
    · have e : ((s.size : Int) == 10) = false := by rw [beq_eq_false_iff_ne]; intro e; exact h ⟨hd, by omega⟩
      exact (digits_all s 10 w hs hd).mono fun e' w' ⟨he, hw⟩ => ⟨by rw [he, e], hw⟩
    · exact digits_bad s 10 w hs hd
  have HC := Lib.hid C
  clear C h
  go_enter Try.func18, Try.ntmps18
  go_wp2_with (go_at_call 38; refine (HC.out _).mono ?_; rintro e w' ⟨rfl, rfl⟩)
  go_ret2
  exact ⟨rfl, Below.refl _ _⟩
set_option maxRecDepth 100000 in
set_option maxHeartbeats 3200000 in
theorem near_ok (st : ByteArray) (t : Int) (w : World) (h0 : 0 ≤ t) (h1 : t ≤ 3155759999) (hs : st.size = 10) (hd : allD st) : Calls Try.prog 18 #[.string st, .int .i64 t] w (NearP (stampF st t) w) := by
  have hs1 : 10 ≤ st.size := by omega
  have C : ∀ w, Calls Try.prog 38 #[.string st, .int .i64 10] w fun e w' => e = .returned (.bool true) ∧ w = w' := by
    intro w
    exact (digits_all st 10 w (by omega) hd).mono fun e' w' ⟨he, hw⟩ => ⟨by rw [he, hs]; rfl, hw⟩
  have HC := Lib.hid C
  have HDD := Lib.hid hd
  have B0 := twoV_bd hd 0 (by omega)
  have B2 := twoV_bd hd 2 (by omega)
  have B4 := twoV_bd hd 4 (by omega)
  have B6 := twoV_bd hd 6 (by omega)
  have B8 := twoV_bd hd 8 (by omega)
  clear hd C hs
  unfold stampF
  obtain ⟨m, em⟩ : ∃ m, twoV st 0 = m := ⟨_, rfl⟩
  obtain ⟨d, ed⟩ : ∃ d, twoV st 2 = d := ⟨_, rfl⟩
  obtain ⟨h, eh⟩ : ∃ h, twoV st 4 = h := ⟨_, rfl⟩
  obtain ⟨i, ei⟩ : ∃ i, twoV st 6 = i := ⟨_, rfl⟩
  obtain ⟨s, es⟩ : ∃ s, twoV st 8 = s := ⟨_, rfl⟩
  rw [em, ed, eh, ei, es]
  rw [em] at B0; rw [ed] at B2; rw [eh] at B4; rw [ei] at B6; rw [es] at B8
  have EM := Lib.hid em
  have ED := Lib.hid ed
  have EH := Lib.hid eh
  have EI := Lib.hid ei
  have ES := Lib.hid es
  clear em ed eh ei es
  have f1 : decide (t < 0) = false := by simp; omega
  have f2 : decide (3155759999 < t) = false := by simp; omega
  go_enter Try.func18, Try.ntmps18
  go_wp2_with (first
    | (go_at_call 38; refine (HC.out _).mono ?_; rintro e w' ⟨rfl, rfl⟩)
    | (go_at_call_of 39 (Value.int IntKind.i64 0); refine (two_0 st _ (by omega) HDD.out).mono ?_; rintro e va ⟨rfl, hva⟩; rw [EM.out])
    | (go_at_call_of 39 (Value.int IntKind.i64 2); refine (two_2 st _ (by omega) HDD.out).mono ?_; rintro e vb ⟨rfl, hvb⟩; rw [ED.out])
    | (go_at_call_of 39 (Value.int IntKind.i64 4); refine (two_4 st _ (by omega) HDD.out).mono ?_; rintro e vc ⟨rfl, hvc⟩; rw [EH.out])
    | (go_at_call_of 39 (Value.int IntKind.i64 6); refine (two_6 st _ (by omega) HDD.out).mono ?_; rintro e vd ⟨rfl, hvd⟩; rw [EI.out])
    | (go_at_call_of 39 (Value.int IntKind.i64 8); refine (two_8 st _ (by omega) HDD.out).mono ?_; rintro e ve ⟨rfl, hve⟩; rw [ES.out]))
  have hbe := ((((hva.trans (hvb.mono hva.size)).trans (hvc.mono (Nat.le_trans hva.size hvb.size))).trans (hvd.mono (Nat.le_trans hva.size (Nat.le_trans hvb.size hvc.size)))).trans (hve.mono (Nat.le_trans hva.size (Nat.le_trans hvb.size (Nat.le_trans hvc.size hvd.size)))))
  have hsz : w.heap.size ≤ ve.heap.size := hbe.size
  clear hva hvb hvc hvd hve
  go_loopg [7] 100 (fun K q wr => ∃ k : Nat, K = 100 - k ∧ k ≤ 100 ∧ q = .int .i64 (nearF t m d h i s k) ∧ Blk wr ve.heap.size 23 #[.int .i64 (2000 + (k : Int)), .int .i64 m, .int .i64 d, .int .i64 h, .int .i64 i, .int .i64 s] ∧ Below w.heap.size w wr)
  case atStart => exact ⟨0, by omega, by omega, rfl, Blk.new _ _ _, hbe.alloc hsz _⟩
  case round =>
    obtain ⟨k, hK, hk, rfl, hD, hb⟩ := hrel
    have HK := Lib.hid hK
    clear hK
    have bd := nearF_bd t m d h i s k
    have NV := near_v t m d h i s (2000 + (k : Int)) k rfl
    have NN := near_n t m d h i s (2000 + (k : Int)) k rfl
    have HNV := Lib.hid NV
    have HNN := Lib.hid NN
    clear NV NN
    obtain ⟨b, hbe⟩ : ∃ b, nearF t m d h i s k = b := ⟨_, rfl⟩
    rw [hbe] at bd
    rw [hbe]
    have HBE := Lib.hid hbe
    clear hbe
    obtain ⟨bd0, bd1⟩ := bd
    have c0 := hD.cell 0
    have c1 := hD.cell 1
    have c2 := hD.cell 2
    have c3 := hD.cell 3
    have c4 := hD.cell 4
    have c5 := hD.cell 5
    have fz := hD.frozen 0
    simp at c0 c1 c2 c3 c4 c5
    by_cases hlt : k < 100
    · by_cases v : vldP (2000 + (k : Int)) m d h i s
      · have nb := ofV_bd v
        obtain ⟨N, hN⟩ : ∃ N, ofV (2000 + (k : Int)) m d h i s = N := ⟨_, rfl⟩
        rw [hN] at nb
        have HN := Lib.hid hN
        have HV := Lib.hid v
        obtain ⟨nb0, nb1⟩ := nb
        clear v hN
        by_cases hneg : b < 0
        · have g1 : decide (b < 0) = true := by simp; omega
          go_wp2_with (go_at_call 12; refine (of_v _ _ _ _ _ _ _ HV.out).mono ?_; rintro e w2 ⟨rfl, hb2⟩; rw [HN.out]; have hD2 := hD.below hb2 hD.lt; have x0 := hD2.cell 0; have z0 := hD2.frozen 0; simp at x0)
          go_roundg (100 - (k + 1))
          case measure => have := HK.out; omega
          case rel => exact ⟨k + 1, rfl, by omega, by rw [HNV.out HV.out (by rw [HBE.out]; omega), HN.out], by rw [show (2000 + ((k + 1 : Nat) : Int)) = 2000 + (k : Int) + 1 by omega]; exact hD2.set_ 0 _, (hb.trans (hb2.mono hb.size)).setCell hsz _⟩
        · have g1 : decide (b < 0) = false := by simp; omega
          by_cases hf : farV N t < farV b t
          all_goals
            go_wp2_with (first
              | (go_at_call 12; refine (of_v _ _ _ _ _ _ _ HV.out).mono ?_; rintro e w2 ⟨rfl, hb2⟩; rw [HN.out]; have hD2 := hD.below hb2 hD.lt; have x0 := hD2.cell 0; have z0 := hD2.frozen 0; simp at x0)
              | (go_at_call_of 40 (Value.int IntKind.i64 N); refine (far_any N t _ (by omega) (by omega) (by omega) (by omega)).mono ?_; rintro e w' ⟨rfl, rfl⟩)
              | (go_at_call_of 40 (Value.int IntKind.i64 b); refine (far_any b t _ (by omega) (by omega) (by omega) (by omega)).mono ?_; rintro e w' ⟨rfl, rfl⟩))
            go_roundg (100 - (k + 1))
            case measure => have := HK.out; omega
            case rel => exact ⟨k + 1, rfl, by omega, by first | rw [HNV.out HV.out (by rw [HBE.out, HN.out]; exact .inr hf), HN.out] | rw [HNN.out (by rw [HBE.out, HN.out]; omega), HBE.out], by rw [show (2000 + ((k + 1 : Nat) : Int)) = 2000 + (k : Int) + 1 by omega]; exact hD2.set_ 0 _, (hb.trans (hb2.mono hb.size)).setCell hsz _⟩
      · have HV := Lib.hid (vldB_no v)
        have HW := Lib.hid v
        clear v
        go_wp2_with (go_at_call 12; refine (of_no _ _ _ _ _ _ _ HV.out).mono ?_; rintro e w2 ⟨rfl, hb2⟩; have hD2 := hD.below hb2 hD.lt; have x0 := hD2.cell 0; have z0 := hD2.frozen 0; simp at x0)
        go_roundg (100 - (k + 1))
        case measure => have := HK.out; omega
        case rel => exact ⟨k + 1, rfl, by omega, by rw [HNN.out (fun x => HW.out x.1), HBE.out], by rw [show (2000 + ((k + 1 : Nat) : Int)) = 2000 + (k : Int) + 1 by omega]; exact hD2.set_ 0 _, (hb.trans (hb2.mono hb.size)).setCell hsz _⟩
    · have e : k = 100 := by omega
      subst e
      by_cases hneg : b < 0
      · go_wp2
        go_ret2
        exact ⟨by rw [HBE.out, if_pos hneg, if_pos hneg]; rfl, hb⟩
      · go_wp2
        go_ret2
        exact ⟨by rw [HBE.out, if_neg (by omega), if_neg (by omega)]; rfl, hb⟩
/-- What Near tells of any text, at any moment. -/
def nearV (st : ByteArray) (t : Int) : Int := if (0 ≤ t ∧ t ≤ 3155759999) ∧ (okD st ∧ st.size = 10) ∧ 0 ≤ stampF st t then stampF st t else 0
def nearE (st : ByteArray) (t : Int) : Int := if ¬ (0 ≤ t ∧ t ≤ 3155759999) then 80 else if ¬ (okD st ∧ st.size = 10) then 81 else if stampF st t < 0 then 81 else 0
theorem near_any (st : ByteArray) (t : Int) (w : World) (hs : st.size ≤ 9223372036854775807) : Calls Try.prog 18 #[.string st, .int .i64 t] w fun e w' => e = .returned (.tuple #[.int .i64 (nearV st t), .int .i64 (nearE st t)]) ∧ Below w.heap.size w w' := by
  by_cases h0 : 0 ≤ t ∧ t ≤ 3155759999
  · by_cases h1 : okD st ∧ st.size = 10
    · have e1 : nearV st t = (if stampF st t < 0 then 0 else stampF st t) := by
        unfold nearV
        by_cases h2 : stampF st t < 0
        · rw [if_pos h2, if_neg (fun x => by omega)]
        · rw [if_neg h2, if_pos ⟨h0, h1, by omega⟩]
      have e2 : nearE st t = (if stampF st t < 0 then 81 else 0) := by
        unfold nearE
        rw [if_neg (fun x => x h0), if_neg (fun x => x h1)]
      rw [e1, e2]
      exact near_ok st t w h0.1 h0.2 h1.2 ((okD_iff st).1 h1.1)
    · have e1 : nearV st t = 0 := if_neg (fun x => h1 x.2.1)
      have e2 : nearE st t = 81 := by
        unfold nearE
        rw [if_neg (fun x => x h0), if_pos h1]
      rw [e1, e2]
      exact near_bad st t w h0.1 h0.2 hs (fun x => h1 ⟨(okD_iff st).2 x.1, x.2⟩)
  · have e1 : nearV st t = 0 := if_neg (fun x => h0 x.1)
    have e2 : nearE st t = 80 := if_pos h0
    rw [e1, e2]
    exact near_date st t w (by omega)
end Go.Proofs.Ytghmmomlfhckgaa
