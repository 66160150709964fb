/-
  Near asked with a moment's own stamp: the plain law; ClockNearest: the walk.
-/
import Derived.Test.YtghmmomlfhckgaaEx
namespace Go.Proofs.Ytghmmomlfhckgaa
open Go.RowKit
set_option linter.unusedVariables false
set_option linter.unusedSimpArgs false
theorem bt_son (xs : List Int) (k : Nat) (a : Int) (h : xs[k]? = some a) (h0 : 0 ≤ a) (h1 : a ≤ 255) : bt (strOfNums xs) k = a := by
  have hk : k < xs.length := by
    rcases Nat.lt_or_ge k xs.length with h' | h'
    · exact h'
    · rw [List.getElem?_eq_none h'] at h; cases h
  have hk2 : k < (strOfNums xs).size := by rw [son_size]; exact hk
  have hx : xs[k] = a := by rw [List.getElem?_eq_getElem hk] at h; exact Option.some.inj h
  rw [← bt_get _ _ hk2]
  have e : (strOfNums xs)[k]'hk2 = ((xs.map fun n => UInt8.ofNat n.toNat).toArray)[k]'(by simpa using hk) := rfl
  have e2 : ((xs.map fun n => UInt8.ofNat n.toNat).toArray)[k]'(by simpa using hk) = UInt8.ofNat (xs[k]).toNat := by simp
  rw [e, e2, hx]
  simp
  omega
theorem twoV_son (xs : List Int) (k : Nat) (a : Int) (h0 : 0 ≤ a) (h1 : a ≤ 99) (e0 : xs[k]? = some (48 + a / 10 % 10)) (e1 : xs[k + 1]? = some (48 + a % 10)) : twoV (strOfNums xs) k = a := by
  unfold twoV
  rw [bt_son xs k _ e0 (by omega) (by omega), bt_son xs (k + 1) _ e1 (by omega) (by omega)]
  omega
theorem allD_son (xs : List Int) (h : ∀ x ∈ xs, 48 ≤ x ∧ x ≤ 57) : allD (strOfNums xs) := by
  intro k hk
  rw [son_size] at hk
  have hm := h _ (List.getElem_mem hk)
  rw [bt_son xs k _ (List.getElem?_eq_getElem hk) (by omega) (by omega)]
  exact hm
theorem stamp10 (m d h i s : Int) : stampV m d h i s = strOfNums [48 + m / 10 % 10, 48 + m % 10, 48 + d / 10 % 10, 48 + d % 10, 48 + h / 10 % 10, 48 + h % 10, 48 + i / 10 % 10, 48 + i % 10, 48 + s / 10 % 10, 48 + s % 10] := by
  unfold stampV d2
  rw [son_append, son_append, son_append, son_append]
  rfl
theorem stamp_allD (m d h i s : Int) : allD (stampV m d h i s) := by
  rw [stamp10]
  apply allD_son
  simp
  omega
theorem stamp_size (m d h i s : Int) : (stampV m d h i s).size = 10 := by
  rw [stamp10, son_size]; rfl
theorem ofV_le {y y' m d h i s : Int} (v : vldP y m d h i s) (v' : vldP y' m d h i s) (l : y < y') : ofV y m d h i s ≤ ofV y' m d h i s := by
  have e : ofV y m d h i s = (bgn y + ahd y m + d - 1) * 86400 + h * 3600 + i * 60 + s := if_pos v
  have e' : ofV y' m d h i s = (bgn y' + ahd y' m + d - 1) * 86400 + h * 3600 + i * 60 + s := if_pos v'
  obtain ⟨a0, a1, a2, a3, a4, a5, _⟩ := v
  obtain ⟨b0, b1, b2, b3, b4, b5, _⟩ := v'
  have g := (show IsDay (bgn y + ahd y m + d - 1) y m d from ⟨a0, a1, a2, a3, a4, a5, rfl⟩).in_year
  have g' := (show IsDay (bgn y' + ahd y' m + d - 1) y' m d from ⟨b0, b1, b2, b3, b4, b5, rfl⟩).in_year
  have := bgn_mono (y + 1) y' (by omega)
  omega
theorem nearF_min (t m d h i s : Int) (k : Nat) : (nearF t m d h i s k = -1 ∨ ∃ j : Nat, j < k ∧ vldP (2000 + (j : Int)) m d h i s ∧ nearF t m d h i s k = ofV (2000 + (j : Int)) m d h i s) ∧
    ∀ j : Nat, j < k → vldP (2000 + (j : Int)) m d h i s → 0 ≤ nearF t m d h i s k ∧ (farV (nearF t m d h i s k) t < farV (ofV (2000 + (j : Int)) m d h i s) t ∨ (farV (nearF t m d h i s k) t = farV (ofV (2000 + (j : Int)) m d h i s) t ∧ nearF t m d h i s k ≤ ofV (2000 + (j : Int)) m d h i s)) := by
  induction k with
  | zero => exact ⟨.inl rfl, fun j hj => absurd hj (by omega)⟩
  | succ k ih =>
    obtain ⟨i1, i2⟩ := ih
    by_cases c : vldP (2000 + (k : Int)) m d h i s ∧ (nearF t m d h i s k < 0 ∨ farV (ofV (2000 + (k : Int)) m d h i s) t < farV (nearF t m d h i s k) t)
    · have e := near_v t m d h i s _ k rfl c.1 c.2
      rw [e]
      refine ⟨.inr ⟨k, by omega, c.1, rfl⟩, fun j hj v => ⟨(ofV_bd c.1).1, ?_⟩⟩
      by_cases ej : j = k
      · subst ej; exact .inr ⟨rfl, Int.le_refl _⟩
      · obtain ⟨p, q⟩ := i2 j (by omega) v
        have c2 := c.2
        omega
    · have e := near_n t m d h i s _ k rfl c
      rw [e]
      refine ⟨?_, fun j hj v => ?_⟩
      · rcases i1 with i1 | ⟨j, hj, v, hn⟩
        · exact .inl i1
        · exact .inr ⟨j, by omega, v, hn⟩
      · by_cases ej : j = k
        · subst ej
          have c' : ¬ (nearF t m d h i s j < 0 ∨ farV (ofV (2000 + (j : Int)) m d h i s) t < farV (nearF t m d h i s j) t) := fun x => c ⟨v, x⟩
          rcases i1 with i1 | ⟨j', hj', v', hn⟩
          · omega
          · have := ofV_le v' v (by omega)
            omega
        · exact i2 j (by omega) v
theorem mom_parts (x : Int) (h0 : 0 ≤ x) (h1 : x ≤ 3155759999) : vldP (dY (x / 86400)) (dM (x / 86400)) (dD (x / 86400)) (x / 3600 % 24) (x / 60 % 60) (x % 60) ∧ ofV (dY (x / 86400)) (dM (x / 86400)) (dD (x / 86400)) (x / 3600 % 24) (x / 60 % 60) (x % 60) = x := by
  have hd := day_spec (x / 86400) (by omega) (by omega)
  obtain ⟨a0, a1, a2, a3, a4, a5, a6⟩ := hd
  have v : vldP (dY (x / 86400)) (dM (x / 86400)) (dD (x / 86400)) (x / 3600 % 24) (x / 60 % 60) (x % 60) := ⟨a0, a1, a2, a3, a4, a5, by omega, by omega, by omega, by omega, by omega, by omega⟩
  refine ⟨v, ?_⟩
  unfold ofV
  rw [if_pos v]
  omega
theorem ofV_stamp {y m d h i s : Int} (v : vldP y m d h i s) : stampOf (ofV y m d h i s) = stampV m d h i s := by
  have e : ofV y m d h i s = (bgn y + ahd y m + d - 1) * 86400 + h * 3600 + i * 60 + s := if_pos v
  obtain ⟨a0, a1, a2, a3, a4, a5, a6, a7, a8, a9, a10, a11⟩ := v
  have g : IsDay (bgn y + ahd y m + d - 1) y m d := ⟨a0, a1, a2, a3, a4, a5, rfl⟩
  generalize bgn y + ahd y m + d - 1 = n at e g
  have e1 : ofV y m d h i s / 86400 = n := by omega
  have e2 : ofV y m d h i s / 3600 % 24 = h := by omega
  have e3 : ofV y m d h i s / 60 % 60 = i := by omega
  have e4 : ofV y m d h i s % 60 = s := by omega
  obtain ⟨_, f2, f3⟩ := day_is g
  unfold stampOf
  rw [e1, e2, e3, e4, ← f2, ← f3]
/-- Near, asked with the stamp of x from t on, tells a moment n of that stamp, and none lies nearer. -/
theorem nearest (x t : Int) (h0 : 0 ≤ x) (h1 : x ≤ 3155759999) (t0 : 0 ≤ t) (t1 : t ≤ 3155759999) :
    ∃ n : Int, nearV (stampOf x) t = n ∧ nearE (stampOf x) t = 0 ∧ 0 ≤ n ∧ n ≤ 3155759999 ∧ stampOf n = stampOf x ∧ farV n t ≤ farV x t ∧ (farV n t < farV x t ∨ n ≤ x) := by
  obtain ⟨v, hx⟩ := mom_parts x h0 h1
  have es : stampOf x = stampV (dM (x / 86400)) (dD (x / 86400)) (x / 3600 % 24) (x / 60 % 60) (x % 60) := rfl
  generalize dY (x / 86400) = Y at *
  generalize dM (x / 86400) = M at *
  generalize dD (x / 86400) = D at *
  generalize x / 3600 % 24 = H at *
  generalize x / 60 % 60 = I at *
  generalize x % 60 = S at *
  rw [es]
  have bd := v
  obtain ⟨a0, a1, a2, a3, a4, a5, a6, a7, a8, a9, a10, a11⟩ := bd
  have dh := dim_hi Y M
  have q0 : twoV (stampV M D H I S) 0 = M := by rw [stamp10]; exact twoV_son _ 0 M (by omega) (by omega) rfl rfl
  have q2 : twoV (stampV M D H I S) 2 = D := by rw [stamp10]; exact twoV_son _ 2 D (by omega) (by omega) rfl rfl
  have q4 : twoV (stampV M D H I S) 4 = H := by rw [stamp10]; exact twoV_son _ 4 H (by omega) (by omega) rfl rfl
  have q6 : twoV (stampV M D H I S) 6 = I := by rw [stamp10]; exact twoV_son _ 6 I (by omega) (by omega) rfl rfl
  have q8 : twoV (stampV M D H I S) 8 = S := by rw [stamp10]; exact twoV_son _ 8 S (by omega) (by omega) rfl rfl
  have ef : stampF (stampV M D H I S) t = nearF t M D H I S 100 := by unfold stampF; rw [q0, q2, q4, q6, q8]
  obtain ⟨i1, i2⟩ := nearF_min t M D H I S 100
  have ey : (2000 : Int) + ((Y - 2000).toNat : Int) = Y := by omega
  have j := i2 (Y - 2000).toNat (by omega) (by rw [ey]; exact v)
  rw [ey, hx] at j
  obtain ⟨j0, j1⟩ := j
  have hok : okD (stampV M D H I S) ∧ (stampV M D H I S).size = 10 := ⟨(okD_iff _).2 (stamp_allD M D H I S), stamp_size M D H I S⟩
  refine ⟨nearF t M D H I S 100, ?_, ?_, j0, (nearF_bd t M D H I S 100).2, ?_, by omega, by omega⟩
  · unfold nearV
    rw [ef, if_pos ⟨⟨t0, t1⟩, hok, j0⟩]
  · unfold nearE
    rw [ef, if_neg (fun z => z ⟨t0, t1⟩), if_neg (fun z => z hok), if_neg (by omega)]
  · rcases i1 with i1 | ⟨j', hj', v', hn⟩
    · omega
    · rw [hn]; exact ofV_stamp v'
theorem stampOf_size (x : Int) : (stampOf x).size = 10 := stamp_size _ _ _ _ _
set_option maxRecDepth 100000 in
set_option maxHeartbeats 3200000 in
theorem nearest_walk (a : Int) (_ : -9223372036854775808 ≤ a) (_ : a ≤ 9223372036854775807) (b : Int) (_ : -9223372036854775808 ≤ b) (_ : b ≤ 9223372036854775807) {w : World} : Calls Try.prog 6 #[.int .i64 a, .int .i64 b] w fun e w' => e = .returned (.bool true) ∧ Below w.heap.size w w' := by
  have x0 := pickP_lo a 3155760000 (by omega)
  have x1 := pickP_hi a 3155760000 (by omega)
  have y0 := pickP_lo b 3155760000 (by omega)
  have y1 := pickP_hi b 3155760000 (by omega)
  obtain ⟨x, ex⟩ : ∃ x, pickP a 3155760000 = x := ⟨_, rfl⟩
  obtain ⟨y, ey⟩ : ∃ y, pickP b 3155760000 = y := ⟨_, rfl⟩
  rw [ex] at x0 x1; rw [ey] at y0 y1
  have EX := Lib.hid ex
  have EY := Lib.hid ey
  clear ex ey
  obtain ⟨n, n1, n2, n3, n4, n5, n6, n7⟩ := nearest x y x0 (by omega) y0 (by omega)
  have CX : Hid (∀ w, Calls Try.prog 22 #[.int .i64 x] w fun e w' => e = .returned (.tuple #[.string (stampOf x), .int .i64 0]) ∧ Below w.heap.size w w') := Lib.hid fun w => stamp_is x w x0 (by omega)
  have CN : Hid (∀ w, Calls Try.prog 22 #[.int .i64 n] w fun e w' => e = .returned (.tuple #[.string (stampOf x), .int .i64 0]) ∧ Below w.heap.size w w') := Lib.hid fun w => by
    have := stamp_is n w n3 n4
    rwa [n5] at this
  have CM : Hid (∀ w, Calls Try.prog 18 #[.string (stampOf x), .int .i64 y] w fun e w' => e = .returned (.tuple #[.int .i64 n, .int .i64 0]) ∧ Below w.heap.size w w') := Lib.hid fun w => by
    have := near_any (stampOf x) y w (by rw [stampOf_size]; omega)
    rwa [n1, n2] at this
  clear n1 n2 n5
  generalize stampOf x = st at *
  have n8 : farV n y < farV x y ∨ (farV n y = farV x y ∧ n ≤ x) := by omega
  clear n7
  have fn : (n < y ∧ farV n y = y - n) ∨ (y ≤ n ∧ farV n y = n - y) := by unfold farV; split <;> omega
  have fx : (x < y ∧ farV x y = y - x) ∨ (y ≤ x ∧ farV x y = x - y) := by unfold farV; split <;> omega
  rcases fn with ⟨c1, e1⟩ | ⟨c1, e1⟩
  all_goals rcases fx with ⟨c2, e2⟩ | ⟨c2, e2⟩
  all_goals rw [e1, e2] at n6 n8; clear e1 e2
  all_goals rcases n8 with n8 | ⟨n7, n8⟩
  all_goals try (exfalso; omega)
  all_goals
    go_enter Try.func6, Try.ntmps6
    go_wp2_with (first
      | (go_at_call 11; refine (examples_ok _).mono ?_; rintro e w1 ⟨rfl, hb1⟩)
      | (go_at_call_of 20 (Value.int IntKind.i64 a); refine (moment_is a x _ (by omega) (by omega) EX.out).mono ?_; rintro e w' ⟨rfl, rfl⟩)
      | (go_at_call_of 20 (Value.int IntKind.i64 b); refine (moment_is b y _ (by omega) (by omega) EY.out).mono ?_; rintro e w' ⟨rfl, rfl⟩)
      | (go_at_call_of 22 (Value.int IntKind.i64 x); refine (CX.out _).mono ?_; rintro e w2 ⟨rfl, hb2⟩)
      | (go_at_call 18; refine (CM.out _).mono ?_; rintro e w3 ⟨rfl, hb3⟩)
      | (go_at_call_of 22 (Value.int IntKind.i64 n); refine (CN.out _).mono ?_; rintro e w4 ⟨rfl, hb4⟩))
    have i2 := hb1.trans (hb2.mono hb1.size)
    have i3 := i2.trans (hb3.mono i2.size)
    have i4 := i3.trans (hb4.mono i3.size)
    go_ret
    exact ⟨rfl, i4⟩
end Go.Proofs.Ytghmmomlfhckgaa
