/-
  ClockBack: the cases joined.
-/
import Derived.Test.YtghmmomlfhckgaaBjul
import Derived.Test.YtghmmomlfhckgaaBwalka
import Derived.Test.YtghmmomlfhckgaaBwalkb
import Derived.Test.YtghmmomlfhckgaaBwalkc
import Derived.Test.YtghmmomlfhckgaaBwalkd
namespace Go.Proofs.Ytghmmomlfhckgaa
open Go.RowKit
set_option linter.unusedVariables false
set_option linter.unusedSimpArgs false
theorem back_walk (raw : Int) (r0 : -9223372036854775808 ≤ raw) (r1 : raw ≤ 9223372036854775807) {w : World} :
    Calls Try.prog 7 #[.int .i64 raw] w fun e w' => e = .returned (.bool true) ∧ Below w.heap.size w w' := by
  have n0 := pickP_lo raw 3155760000 (by omega)
  have n1 := pickP_hi raw 3155760000 (by omega)
  have M := Lib.hid fun w => moment_is raw _ w r0 r1 rfl
  generalize pickP raw 3155760000 = n at *
  have n2 : n ≤ 3155759999 := by omega
  have ds := day_spec (n / 86400) (by omega) (by omega)
  have ds' := ds
  obtain ⟨y0, y1, m0, m1, d0, d1, _⟩ := ds'
  have hN : IntKind.i64.wrap (n + 86400) = n + 86400 := IntWalk.i64_in _ (by omega)
  have D := Lib.hid fun w => date_is n w n0 n2
  obtain ⟨o1, o2⟩ := of_self n n0 n2
  have O : Hid (∀ w, Calls Try.prog 12 #[.agg #[.int .i64 (dY (n / 86400)), .int .i64 (dM (n / 86400)), .int .i64 (dD (n / 86400)), .int .i64 (n / 3600 % 24), .int .i64 (n / 60 % 60), .int .i64 (n % 60)]] w fun e w' => e = .returned (.tuple #[.int .i64 n, .int .i64 0]) ∧ Below w.heap.size w w') := Lib.hid fun w => by
    have := of_any (dY (n / 86400)) (dM (n / 86400)) (dD (n / 86400)) (n / 3600 % 24) (n / 60 % 60) (n % 60) w
    rwa [o1, o2] at this
  have S := Lib.hid fun w => stamp_is n w n0 n2
  obtain ⟨e1, e2⟩ := near_self n n0 n2
  have R : Hid (∀ w, Calls Try.prog 18 #[.string (stampOf n), .int .i64 n] w fun e w' => e = .returned (.tuple #[.int .i64 n, .int .i64 0]) ∧ Below w.heap.size w w') := Lib.hid fun w => by
    have := near_any (stampOf n) n w (by rw [stampOf_size]; omega)
    rwa [e1, e2] at this
  have W := Lib.hid fun w => weekday_ok n w n0 n2
  have U := Lib.hid fun w => julian_is n w n0 n2
  have dh := dim_hi (dY (n / 86400)) (dM (n / 86400))
  by_cases hl : 3155759999 < n + 86400
  · exact back_a raw n (n + 86400) _ _ _ _ _ _ _ (stampOf n) (julOf n) (julOf n) y0 y1 m0 m1 d0 (by omega) n0 n2 (by omega) (by omega) (stampOf_size n) (jul_size _ _ _) (jul_size _ _ _) hN (decide_eq_true hl) M D O S R W U (Lib.hid fun w => date_no (n + 86400) w (.inr hl)) w
  have W2 : Hid (∀ w, Calls Try.prog 23 #[.int .i64 (n + 86400)] w fun e w' => e = .returned (.tuple #[.int .i64 (((n / 86400 + 5) % 7 + 1) % 7 + 1), .int .i64 0]) ∧ w = w') := Lib.hid fun w => by
    have := weekday_ok (n + 86400) w (by omega) (by omega)
    rwa [show ((n + 86400) / 86400 + 5) % 7 + 1 = ((n / 86400 + 5) % 7 + 1) % 7 + 1 by omega] at this
  have hk : (n + 86400) / 86400 = n / 86400 + 1 := by omega
  have h1 : (n + 86400) / 3600 % 24 = n / 3600 % 24 := by omega
  have h2 : (n + 86400) / 60 % 60 = n / 60 % 60 := by omega
  have h3 : (n + 86400) % 60 = n % 60 := by omega
  have D2 : ∀ Y Mo Da, IsDay (n / 86400 + 1) Y Mo Da → Hid (∀ w, Calls Try.prog 14 #[.int .i64 (n + 86400)] w fun e w' => e = .returned (.tuple #[.agg #[.int .i64 Y, .int .i64 Mo, .int .i64 Da, .int .i64 (n / 3600 % 24), .int .i64 (n / 60 % 60), .int .i64 (n % 60)], .int .i64 0]) ∧ Below w.heap.size w w') := fun Y Mo Da hd => Lib.hid fun w => by
    have := date_is (n + 86400) w (by omega) (by omega)
    obtain ⟨f1, f2, f3⟩ := day_is hd
    unfold dateOf dateV at this
    rwa [hk, h1, h2, h3, ← f1, ← f2, ← f3] at this
  have U2 : ∀ Y Mo Da, IsDay (n / 86400 + 1) Y Mo Da → Hid (∀ w, Calls Try.prog 24 #[.int .i64 (n + 86400)] w fun e w' => e = .returned (.tuple #[.string (jt (Y % 10) (ahd Y Mo + Da)), .int .i64 0]) ∧ Below w.heap.size w w') := fun Y Mo Da hd => Lib.hid fun w => by
    have := julian_is (n + 86400) w (by omega) (by omega)
    obtain ⟨f1, f2, f3⟩ := day_is hd
    unfold julOf at this
    rwa [hk, ← f1, ← f2, ← f3, julV_jt] at this
  have U1 : Hid (∀ w, Calls Try.prog 24 #[.int .i64 n] w fun e w' => e = .returned (.tuple #[.string (jt (dY (n / 86400) % 10) (ahd (dY (n / 86400)) (dM (n / 86400)) + dD (n / 86400))), .int .i64 0]) ∧ Below w.heap.size w w') := Lib.hid fun w => by
    have := julian_is n w n0 n2
    unfold julOf at this
    rwa [julV_jt] at this
  have hg : decide (3155759999 < n + 86400) = false := decide_eq_false hl
  have J : ∀ c D, (jt c D).size = 4 := fun c D => by unfold jt; rw [son_size]; rfl
  have dl := dim_lo (dY (n / 86400)) (dM (n / 86400))
  have al := ahd_lo (dY (n / 86400)) (dM (n / 86400))
  have as_ := ahd_succ (dY (n / 86400)) (dM (n / 86400)) m0 m1
  have nx := ds.next
  have ws : ((n / 86400 + 5) % 7 + 1) % 7 + 1 = ((n / 86400 + 5) % 7 + 1) % 7 + 1 := rfl
  by_cases c1 : dD (n / 86400) < dim (dY (n / 86400)) (dM (n / 86400))
  · rw [if_pos c1] at nx
    have ah := ahd_hi (dY (n / 86400)) (dM (n / 86400) + 1)
    obtain ⟨g1, g2, g3⟩ := jul_up (dY (n / 86400)) (ahd (dY (n / 86400)) (dM (n / 86400)) + dD (n / 86400)) (by omega) (by omega)
    have e : ahd (dY (n / 86400)) (dM (n / 86400)) + (dD (n / 86400) + 1) = ahd (dY (n / 86400)) (dM (n / 86400)) + dD (n / 86400) + 1 := by omega
    have U2' := U2 _ _ _ nx
    rw [e] at U2'
    exact back_b raw n (n + 86400) _ _ _ _ _ _ _ (stampOf n) _ _ y0 y1 m0 m1 d0 (by omega) n0 n2 (by omega) (by omega) (stampOf_size n) (J _ _) (J _ _) hN hg M D O S R W U1 (D2 _ _ _ nx) W2 U2' g3 g1 g2 w
  rw [if_neg c1] at nx
  have hd : dD (n / 86400) = dim (dY (n / 86400)) (dM (n / 86400)) := by omega
  have t1 : ((1 : Int) == dD (n / 86400) + 1) = false := by rw [beq_eq_false_iff_ne]; omega
  by_cases c2 : dM (n / 86400) < 12
  · rw [if_pos c2] at nx
    have ah := ahd_hi (dY (n / 86400)) (dM (n / 86400) + 1 + 1)
    have as2 := ahd_succ (dY (n / 86400)) (dM (n / 86400) + 1) (by omega) (by omega)
    have dl2 := dim_lo (dY (n / 86400)) (dM (n / 86400) + 1)
    obtain ⟨g1, g2, g3⟩ := jul_up (dY (n / 86400)) (ahd (dY (n / 86400)) (dM (n / 86400)) + dD (n / 86400)) (by omega) (by omega)
    have e : ahd (dY (n / 86400)) (dM (n / 86400) + 1) + 1 = ahd (dY (n / 86400)) (dM (n / 86400)) + dD (n / 86400) + 1 := by omega
    have U2' := U2 _ _ _ nx
    rw [e] at U2'
    exact back_c raw n (n + 86400) _ _ _ _ _ _ _ (stampOf n) _ _ y0 y1 m0 m1 d0 (by omega) n0 n2 (by omega) (by omega) (stampOf_size n) (J _ _) (J _ _) hN hg M D O S R W U1 (D2 _ _ _ nx) W2 U2' g3 g1 g2 t1 w
  rw [if_neg c2] at nx
  by_cases c3 : dY (n / 86400) < 2099
  · rw [if_pos c3] at nx
    have U2' := U2 _ _ _ nx
    rw [ahd_1, show (0 : Int) + 1 = 1 from rfl] at U2'
    exact back_d raw n (n + 86400) _ _ _ _ _ _ _ (stampOf n) _ _ y0 y1 m0 m1 d0 (by omega) n0 n2 (by omega) (by omega) (stampOf_size n) (J _ _) (J _ _) hN hg M D O S R W U1 (D2 _ _ _ nx) W2 U2' (jul_one _) t1 (by rw [beq_eq_false_iff_ne]; omega) w
  · rw [if_neg c3] at nx
    omega
end Go.Proofs.Ytghmmomlfhckgaa
