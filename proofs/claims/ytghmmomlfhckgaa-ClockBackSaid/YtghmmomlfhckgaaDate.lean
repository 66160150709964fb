/-
  The document's Of; Date: the program's and the document's.
-/
import Derived.Test.YtghmmomlfhckgaaOf
import Derived.Deep.LoopGhost
namespace Go.Proofs.Ytghmmomlfhckgaa
open Go.RowKit
set_option linter.unusedVariables false
set_option linter.unusedSimpArgs false

theorem ret2 {a b e : Int} (h : a = b) : Ending.returned (.tuple #[.int .i64 a, .int .i64 e]) = Ending.returned (.tuple #[.int .i64 b, .int .i64 e]) := by rw [h]
theorem rof_no (y m d h i s : Int) (w : World) (v : vldB y m d h i s = false) : Calls Try.prog 13 #[.agg #[.int .i64 y, .int .i64 m, .int .i64 d, .int .i64 h, .int .i64 i, .int .i64 s]] w fun e w' => e = .returned (.tuple #[.int .i64 0, .int .i64 80]) ∧ Below w.heap.size w w' := by
  have V := Lib.hid v
  clear v
  go_enter Try.func13, Try.ntmps13
  go_wp2_with (go_at_call 36; refine (rright_any y m d h i s _).mono ?_; rintro e w1 ⟨rfl, hb1⟩; rw [V.out])
  go_ret2
  exact ⟨rfl, ((Below.refl _ _).alloc (Nat.le_refl _) _).trans (hb1.mono (by simp))⟩
set_option maxHeartbeats 1600000 in
theorem rof_yes (y m d h i s : Int) (w : World) (v : vldP y m d h i s) : Calls Try.prog 13 #[.agg #[.int .i64 y, .int .i64 m, .int .i64 d, .int .i64 h, .int .i64 i, .int .i64 s]] w fun e w' => e = .returned (.tuple #[.int .i64 ((bgn y + ahd y m + d - 1) * 86400 + h * 3600 + i * 60 + s), .int .i64 0]) ∧ Below w.heap.size w w' := by
  have V := Lib.hid (vldB_yes v)
  obtain ⟨v0, v1, v2, v3, v4, v5, v6, v7, v8, v9, v10, v11⟩ := v
  have u1 := ahd_hi y m
  have u3 := bgn_hi y v0 (by omega)
  have u4 := dim_hi y m
  go_enter Try.func13, Try.ntmps13
  go_wp2_with (go_at_call 36; refine (rright_any y m d h i s _).mono ?_; rintro e w1 ⟨rfl, hb1⟩; rw [V.out]; have hX := (Blk.new w 23 _).below hb1 (by simp); have x0 := hX.cell 0; have x1 := hX.cell 1; have x2 := hX.cell 2; have x3 := hX.cell 3; have x4 := hX.cell 4; have x5 := hX.cell 5; simp at x0 x1 x2 x3 x4 x5; clear hX)
  have hbw : Below w.heap.size w w1 := ((Below.refl _ _).alloc (Nat.le_refl _) _).trans (hb1.mono (by simp))
  go_loop [5, 6] (fun n q => ∃ c : Int, 2000 ≤ c ∧ c ≤ y ∧ q = .int .i64 c ∧ n = .int .i64 (bgn c + d - 1)) (fun _ q => (y - intOf q).toNat)
  case atStart => exact ⟨2000, by omega, v0, rfl, by rw [bgn_2000]; simp⟩
  case round =>
    obtain ⟨c, hc0, hc1, rfl, rfl⟩ := hrel
    have b0 := bgn_lo c hc0
    have b1 := bgn_hi c hc0 (by omega)
    by_cases hlt : c < y
    · go_wp2
      go_loop [5, 7] (fun n q => ∃ k : Int, 1 ≤ k ∧ k ≤ 13 ∧ q = .int .i64 k ∧ n = .int .i64 (bgn c + ahd c k + d - 1)) (fun _ q => (13 - intOf q).toNat)
      case atStart => exact ⟨1, by omega, by omega, rfl, by rw [ahd_1]; simp⟩
      case round =>
        obtain ⟨k, hk0, hk1, rfl, rfl⟩ := hrel
        have a0 := ahd_lo c k
        have a1 := ahd_hi c k
        have a2 := dim_lo c k
        have a3 := dim_hi c k
        by_cases hk : k ≤ 12
        · go_wp2_with (go_at_call 37; refine (days_any _ _ _).mono ?_; rintro e w' ⟨rfl, rfl⟩)
          go_round
          case rel => exact ⟨k + 1, by omega, by omega, by go_num, by rw [ahd_succ c k hk0 hk]; go_num⟩
          case measure => simp [intOf]; omega
        · have e13 : k = 13 := by omega
          have hs := bgn_succ c hc0 (by omega)
          have h13 := ahd_13 c
          have e2 : bgn c + ahd c k + d - 1 = bgn (c + 1) + d - 1 := by rw [e13, h13, hs]; omega
          have E2 := Lib.hid e2
          clear e13 hs h13 e2
          go_wp2
          go_round
          case rel => exact ⟨c + 1, by omega, by omega, by go_num, by rw [E2.out]⟩
          case measure => simp [intOf]; omega
    · have e : c = y := by omega
      subst e
      go_wp2
      go_loop [5, 8] (fun n q => ∃ k : Int, 1 ≤ k ∧ k ≤ m ∧ q = .int .i64 k ∧ n = .int .i64 (bgn c + ahd c k + d - 1)) (fun _ q => (m - intOf q).toNat)
      case atStart => exact ⟨1, by omega, by omega, rfl, by rw [ahd_1]; simp⟩
      case round =>
        obtain ⟨k, hk0, hk1, rfl, rfl⟩ := hrel
        have a0 := ahd_lo c k
        have a1 := ahd_hi c k
        have a2 := dim_lo c k
        have a3 := dim_hi c k
        by_cases hk : k < m
        · go_wp2_with (go_at_call 37; refine (days_any _ _ _).mono ?_; rintro e w' ⟨rfl, rfl⟩)
          go_round
          case rel => exact ⟨k + 1, by omega, by omega, by go_num, by rw [ahd_succ c k hk0 (by omega)]; go_num⟩
          case measure => simp [intOf]; omega
        · have e : k = m := by omega
          subst e
          go_wp2
          go_ret2
          exact ⟨ret2 (by omega), hbw⟩
theorem rof_any (y m d h i s : Int) (w : World) : Calls Try.prog 13 #[.agg #[.int .i64 y, .int .i64 m, .int .i64 d, .int .i64 h, .int .i64 i, .int .i64 s]] w fun e w' => e = .returned (.tuple #[.int .i64 (ofV y m d h i s), .int .i64 (ofE y m d h i s)]) ∧ Below w.heap.size w w' := by
  by_cases v : vldP y m d h i s
  · have e1 : ofV y m d h i s = (bgn y + ahd y m + d - 1) * 86400 + h * 3600 + i * 60 + s := if_pos v
    have e2 : ofE y m d h i s = 0 := if_pos v
    rw [e1, e2]; exact rof_yes y m d h i s w v
  · have e1 : ofV y m d h i s = 0 := if_neg v
    have e2 : ofE y m d h i s = 80 := if_neg v
    rw [e1, e2]; exact rof_no y m d h i s w (vldB_no v)

theorem Blk.new' {w : World} {g : Nat} (h : g = w.heap.size) (t : TypeId) (cs : Array Value) : Blk (w.alloc (.cells cs t)) g t cs := by
  subst h; exact Blk.new w t cs
/-- A date as a value. -/
def dateV (y m d h i s : Int) : Value := .agg #[.int .i64 y, .int .i64 m, .int .i64 d, .int .i64 h, .int .i64 i, .int .i64 s]
noncomputable def dateOf (t : Int) : Value := dateV (dY (t / 86400)) (dM (t / 86400)) (dD (t / 86400)) (t / 3600 % 24) (t / 60 % 60) (t % 60)

theorem date_no (t : Int) (w : World) (h : t < 0 ∨ 3155759999 < t) : Calls Try.prog 14 #[.int .i64 t] w fun e w' => e = .returned (.tuple #[.agg #[.int .i64 0, .int .i64 0, .int .i64 0, .int .i64 0, .int .i64 0, .int .i64 0], .int .i64 80]) ∧ Below w.heap.size w w' := by
  rcases h with h | h
  all_goals
    go_enter Try.func14, Try.ntmps14
    go_wp2
    exact bodyPost_ret (v := .tuple #[.agg #[.int .i64 0, .int .i64 0, .int .i64 0, .int .i64 0, .int .i64 0, .int .i64 0], .int .i64 80]) (by simp [results, Try.results14, go_sem]) rfl ⟨rfl, (Below.refl _ _).alloc (Nat.le_refl _) _⟩

theorem rdate_no (t : Int) (w : World) (h : t < 0 ∨ 3155759999 < t) : Calls Try.prog 15 #[.int .i64 t] w fun e w' => e = .returned (.tuple #[.agg #[.int .i64 0, .int .i64 0, .int .i64 0, .int .i64 0, .int .i64 0, .int .i64 0], .int .i64 80]) ∧ Below w.heap.size w w' := by
  rcases h with h | h
  all_goals
    go_enter Try.func15, Try.ntmps15
    go_wp2
    exact bodyPost_ret (v := .tuple #[.agg #[.int .i64 0, .int .i64 0, .int .i64 0, .int .i64 0, .int .i64 0, .int .i64 0], .int .i64 80]) (by simp [results, Try.results15, go_sem]) rfl ⟨rfl, (Below.refl _ _).alloc (Nat.le_refl _) _⟩

set_option maxHeartbeats 1600000 in
theorem date_ok (t : Int) (w : World) (h0 : 0 ≤ t) (h1 : t ≤ 3155759999) : Calls Try.prog 14 #[.int .i64 t] w fun e w' => ∃ y m d, IsDay (t / 86400) y m d ∧ e = .returned (.tuple #[dateV y m d (t / 3600 % 24) (t / 60 % 60) (t % 60), .int .i64 0]) ∧ Below w.heap.size w w' := by
  have g1 : t % 86400 / 3600 = t / 3600 % 24 := by omega
  have g2 : t % 86400 / 60 % 60 = t / 60 % 60 := by omega
  have g3 : t % 86400 % 60 = t % 60 := by omega
  have hn0 : 0 ≤ t / 86400 := by omega
  have hn1 : t / 86400 ≤ 36524 := by omega
  have G1 := Lib.hid g1
  have G2 := Lib.hid g2
  have G3 := Lib.hid g3
  clear g1 g2 g3
  have f1 : decide (t < 0) = false := by simp; omega
  have f2 : decide (3155759999 < t) = false := by simp; omega
  go_enter Try.func14, Try.ntmps14
  go_wp2
  rw [G3.out]
  go_loopg [] ((t / 86400 / 365).toNat) (fun k wr => ∃ y : Int, k = (y - 2000).toNat ∧ 2000 ≤ y ∧ y ≤ 2100 ∧ t / 86400 < bgn (y + 1) ∧
      Blk wr (w.heap.size + 1) 23 #[.int .i64 y, .int .i64 12, .int .i64 0, .int .i64 (t % 86400 / 3600), .int .i64 (t % 86400 / 60 % 60), .int .i64 (t % 60)] ∧
      Blk wr w.heap.size 23 #[.int .i64 0, .int .i64 0, .int .i64 0, .int .i64 0, .int .i64 0, .int .i64 0] ∧ Below w.heap.size w wr)
  case atStart => exact ⟨2000 + t / 86400 / 365, by omega, by omega, by omega, by unfold bgn; omega, Blk.new' (by simp) _ _, (Blk.new w _ _).alloc _, ((Below.refl _ _).alloc (Nat.le_refl _) _).alloc (by simp) _⟩
  case round =>
    obtain ⟨y, hk, y0, y1, hy, hD, hR, hb⟩ := hrel
    have c0 := hD.cell 0
    have fz := hD.frozen 0
    simp at c0
    have HK := Lib.hid hk
    clear hk
    by_cases hlt : t / 86400 < bgn y
    · have y2 : 2000 < y := by
        rcases Int.lt_or_eq_of_le y0 with h | h
        · exact h
        · exfalso; rw [← h, bgn_2000] at hlt; omega
      go_wp2_with (go_at_call 34; refine (begins_any _ _ (by omega) (by omega)).mono ?_; rintro e w' ⟨rfl, rfl⟩)
      go_roundg (y - 1 - 2000).toNat
      case measure => have := HK.out; omega
      case rel => exact ⟨y - 1, by omega, by omega, by omega, by rw [show y - 1 + 1 = y by omega]; exact hlt, hD.set_ 0 _, Blk.far_ (by omega) _ hR, hb.setCell (by simp) _⟩
    · have hy9 : y ≤ 2099 := by
        rcases Int.lt_or_eq_of_le y1 with h | h
        · omega
        · exfalso; rw [h, bgn_2100] at hlt; omega
      have bl := bgn_lo y y0
      have bh := bgn_hi y y0 (by omega)
      have hs := bgn_succ y y0 hy9
      have h13 := ahd_13 y
      have hr13 : t / 86400 - bgn y < ahd y 13 := by omega
      clear hs h13 HK
      go_wp2_with (go_at_call 34; refine (begins_any _ _ (by omega) (by omega)).mono ?_; rintro e w' ⟨rfl, rfl⟩)
      go_loopg [] 12 (fun k wr => ∃ m : Int, k = m.toNat ∧ 1 ≤ m ∧ m ≤ 12 ∧ t / 86400 - bgn y < ahd y (m + 1) ∧
          Blk wr (w.heap.size + 1) 23 #[.int .i64 y, .int .i64 m, .int .i64 0, .int .i64 (t % 86400 / 3600), .int .i64 (t % 86400 / 60 % 60), .int .i64 (t % 60)] ∧
          Blk wr w.heap.size 23 #[.int .i64 0, .int .i64 0, .int .i64 0, .int .i64 0, .int .i64 0, .int .i64 0] ∧ Below w.heap.size w wr)
      case atStart => exact ⟨12, by omega, by omega, by omega, hr13, hD, hR, hb⟩
      case round =>
        obtain ⟨m, hk, m0, m1, hm, hD, hR, hb⟩ := hrel
        clear c0 fz
        have c0 := hD.cell 0
        have c1 := hD.cell 1
        have fz := hD.frozen 1
        simp at c0 c1
        have HK := Lib.hid hk
        clear hk
        have al := ahd_lo y m
        have ah := ahd_hi y m
        by_cases hlm : t / 86400 - bgn y < ahd y m
        · have m2 : 1 < m := by
            rcases Int.lt_or_eq_of_le m0 with h | h
            · exact h
            · exfalso; rw [← h, ahd_1] at hlm; omega
          go_wp2_with (go_at_call 35; refine (ahead_any _ _ _).mono ?_; rintro e w' ⟨rfl, rfl⟩)
          go_roundg (m - 1).toNat
          case measure => have := HK.out; omega
          case rel => exact ⟨m - 1, by omega, by omega, by omega, by rw [show m - 1 + 1 = m by omega]; exact hlm, hD.set_ 1 _, Blk.far_ (by omega) _ hR, hb.setCell (by simp) _⟩
        · have hsz := hD.lt
          have c2 := hD.cell 2
          have c3 := hD.cell 3
          have c4 := hD.cell 4
          have c5 := hD.cell 5
          have fz2 := hD.frozen 2
          have r0 := hR.cell 0
          have r1 := hR.cell 1
          have r2 := hR.cell 2
          have r3 := hR.cell 3
          have r4 := hR.cell 4
          have r5 := hR.cell 5
          have s0 := hR.frozen 0
          have s1 := hR.frozen 1
          have s2 := hR.frozen 2
          have s3 := hR.frozen 3
          have s4 := hR.frozen 4
          have s5 := hR.frozen 5
          simp at c2 c3 c4 c5 r0 r1 r2 r3 r4 r5
          have ds := ahd_succ y m m0 m1
          have HI : Hid (IsDay (t / 86400) y m (t / 86400 - bgn y - ahd y m + 1)) := ⟨y0, hy9, m0, m1, by omega, by omega, by omega⟩
          clear ds
          go_wp2_with (go_at_call 35; refine (ahead_any _ _ _).mono ?_; rintro e w' ⟨rfl, rfl⟩)
          refine bodyPost_ret (v := .tuple #[.agg #[.int .i64 y, .int .i64 m, .int .i64 (t / 86400 - bgn y - ahd y m + 1), .int .i64 (t % 86400 / 3600), .int .i64 (t % 86400 / 60 % 60), .int .i64 (t % 60)], .int .i64 0]) (by simp [results, Try.results14, go_sem, r0, r1, r2, r3, r4, r5]) rfl ⟨y, m, _, HI.out, ?_, ?_⟩
          · rw [G1.out, G2.out]; rfl
          · repeat (with_reducible first | exact hb | apply Below.setCell (hp := by simp) | apply Below.setCell (hp := by simp; done))
set_option maxHeartbeats 1600000 in
theorem rdate_ok (t : Int) (w : World) (h0 : 0 ≤ t) (h1 : t ≤ 3155759999) : Calls Try.prog 15 #[.int .i64 t] w fun e w' => ∃ y m d, IsDay (t / 86400) y m d ∧ e = .returned (.tuple #[dateV y m d (t / 3600 % 24) (t / 60 % 60) (t % 60), .int .i64 0]) ∧ Below w.heap.size w w' := by
  have hn0 : 0 ≤ t / 86400 := by omega
  have hn1 : t / 86400 ≤ 36524 := by omega
  have f1 : decide (t < 0) = false := by simp; omega
  have f2 : decide (3155759999 < t) = false := by simp; omega
  go_enter Try.func15, Try.ntmps15
  go_wp2
  go_loopg [5] ((t / 86400).toNat) (fun k q wr => ∃ y m n : Int, k = n.toNat ∧ q = .int .i64 n ∧ 0 ≤ n ∧ n ≤ 36524 ∧ 2000 ≤ y ∧ y ≤ 2099 ∧ 1 ≤ m ∧ m ≤ 12 ∧ bgn y + ahd y m + n = t / 86400 ∧
      Blk wr (w.heap.size + 1) 23 #[.int .i64 y, .int .i64 m, .int .i64 1, .int .i64 (t / 3600 % 24), .int .i64 (t / 60 % 60), .int .i64 (t % 60)] ∧
      Blk wr w.heap.size 23 #[.int .i64 0, .int .i64 0, .int .i64 0, .int .i64 0, .int .i64 0, .int .i64 0] ∧ Below w.heap.size w wr)
  case atStart => exact ⟨2000, 1, t / 86400, rfl, rfl, by omega, by omega, by omega, by omega, by omega, by omega, by rw [bgn_2000, ahd_1]; omega, Blk.new' (by simp) _ _, (Blk.new w _ _).alloc _, ((Below.refl _ _).alloc (Nat.le_refl _) _).alloc (by simp) _⟩
  case round =>
    obtain ⟨y, m, n, hk, rfl, n0, n1, y0, y1, m0, m1, hN, hD, hR, hb⟩ := hrel
    have hlt := hD.lt
    have c0 := hD.cell 0
    have c1 := hD.cell 1
    have z0 := hD.frozen 0
    have z1 := hD.frozen 1
    simp at c0 c1
    have HK := Lib.hid hk
    have HN := Lib.hid hN
    clear hk hN
    have al := ahd_lo y m
    have bl := bgn_lo y y0
    have dl := dim_lo y m
    have dh := dim_hi y m
    by_cases hge : dim y m ≤ n
    · by_cases hm : m < 12
      · go_wp2_with (go_at_call 37; refine (days_any _ _ _).mono ?_; rintro e w' ⟨rfl, rfl⟩)
        go_roundg (n - dim y m).toNat
        case measure => have := HK.out; omega
        case rel => exact ⟨y, m + 1, n - dim y m, rfl, rfl, by omega, by omega, y0, y1, by omega, by omega, by rw [ahd_succ y m m0 m1]; have := HN.out; omega, hD.set_ 1 _, Blk.far_ (by omega) _ hR, hb.setCell (by simp) _⟩
      · have em : m = 12 := by omega
        subst em
        have hs := bgn_succ y y0 y1
        have h13 : ahd y 13 = ahd y 12 + dim y 12 := ahd_succ y 12 (by omega) (by omega)
        have h14 := ahd_13 y
        have hN' := HN.out
        have hy : y < 2099 := by
          rcases Int.lt_or_eq_of_le y1 with h | h
          · exact h
          · exfalso
            subst h
            have := bgn_2100
            have e' : bgn 2100 = bgn 2099 + 365 + lp 2099 := hs
            omega
        have HB : Hid (bgn (y + 1) + ahd (y + 1) 1 + (n - dim y 12) = t / 86400) := by show _ = _; rw [ahd_1]; omega
        clear hs h13 h14 hN'
        go_wp2_with (go_at_call 37; refine (days_any _ _ _).mono ?_; rintro e w' ⟨rfl, rfl⟩)
        go_roundg (n - dim y 12).toNat
        case measure => have := HK.out; omega
        case rel => exact ⟨y + 1, 1, n - dim y 12, rfl, rfl, by omega, by omega, by omega, by omega, by omega, by omega, HB.out, ((hD.set_ 1 _).set_ 1 _).set_ 0 _, Blk.far_ (by omega) _ (Blk.far_ (by omega) _ (Blk.far_ (by omega) _ hR)), ((hb.setCell (by simp) _).setCell (by simp) _).setCell (by simp) _⟩
    · have c2 := hD.cell 2
      have c3 := hD.cell 3
      have c4 := hD.cell 4
      have c5 := hD.cell 5
      have fz2 := hD.frozen 2
      have r0 := hR.cell 0
      have r1 := hR.cell 1
      have r2 := hR.cell 2
      have r3 := hR.cell 3
      have r4 := hR.cell 4
      have r5 := hR.cell 5
      have s0 := hR.frozen 0
      have s1 := hR.frozen 1
      have s2 := hR.frozen 2
      have s3 := hR.frozen 3
      have s4 := hR.frozen 4
      have s5 := hR.frozen 5
      simp at c2 c3 c4 c5 r0 r1 r2 r3 r4 r5
      have HI : Hid (IsDay (t / 86400) y m (1 + n)) := ⟨y0, y1, m0, m1, by omega, by omega, by have := HN.out; omega⟩
      go_wp2_with (go_at_call 37; refine (days_any _ _ _).mono ?_; rintro e w' ⟨rfl, rfl⟩)
      refine bodyPost_ret (v := .tuple #[.agg #[.int .i64 y, .int .i64 m, .int .i64 (1 + n), .int .i64 (t / 3600 % 24), .int .i64 (t / 60 % 60), .int .i64 (t % 60)], .int .i64 0]) (by simp [results, Try.results15, go_sem, r0, r1, r2, r3, r4, r5]) rfl ⟨y, m, _, HI.out, rfl, ?_⟩
      repeat (with_reducible first | exact hb | apply Below.setCell (hp := by simp))
theorem date_is (t : Int) (w : World) (h0 : 0 ≤ t) (h1 : t ≤ 3155759999) : Calls Try.prog 14 #[.int .i64 t] w fun e w' => e = .returned (.tuple #[dateOf t, .int .i64 0]) ∧ Below w.heap.size w w' :=
  (date_ok t w h0 h1).mono fun e w' ⟨y, m, d, hd, he, hb⟩ => by
    obtain ⟨e1, e2, e3⟩ := day_is hd
    subst e1 e2 e3
    exact ⟨he, hb⟩
theorem rdate_is (t : Int) (w : World) (h0 : 0 ≤ t) (h1 : t ≤ 3155759999) : Calls Try.prog 15 #[.int .i64 t] w fun e w' => e = .returned (.tuple #[dateOf t, .int .i64 0]) ∧ Below w.heap.size w w' :=
  (rdate_ok t w h0 h1).mono fun e w' ⟨y, m, d, hd, he, hb⟩ => by
    obtain ⟨e1, e2, e3⟩ := day_is hd
    subst e1 e2 e3
    exact ⟨he, hb⟩
end Go.Proofs.Ytghmmomlfhckgaa
