/-
  ClockMonths: the cases joined.
-/
import Derived.Test.YtghmmomlfhckgaaMwalka
import Derived.Test.YtghmmomlfhckgaaMwalkb
import Derived.Test.YtghmmomlfhckgaaMwalkc
import Derived.Test.YtghmmomlfhckgaaMwalkd
import Derived.Test.YtghmmomlfhckgaaMwalke
import Derived.Test.YtghmmomlfhckgaaMwalkf
import Derived.Test.YtghmmomlfhckgaaMwalkg
import Derived.Test.YtghmmomlfhckgaaMwalkh
namespace Go.Proofs.Ytghmmomlfhckgaa
open Go.RowKit
set_option linter.unusedVariables false
set_option linter.unusedSimpArgs false
theorem front4 (t : Int) : (stampOf t).extract 0 4 = busOf t := by
  obtain ⟨r, e, h⟩ := stamp_front t
  rw [e]
  exact ByteArray.extract_append_eq_left h.symm
theorem months_walk (ya : Int) (r0 : -9223372036854775808 ≤ ya) (r1 : ya ≤ 9223372036854775807) (mo : Int) (r2 : -9223372036854775808 ≤ mo) (r3 : mo ≤ 9223372036854775807) (raw : Int) (r4 : -9223372036854775808 ≤ raw) (r5 : raw ≤ 9223372036854775807) (hr : Int) (r6 : -9223372036854775808 ≤ hr) (r7 : hr ≤ 9223372036854775807) {w : World} :
    Calls Try.prog 10 #[.int .i64 ya, .int .i64 mo, .int .i64 raw, .int .i64 hr] w fun e w' => e = .returned (.bool true) ∧ Below w.heap.size w w' := by
  have y0 := pickP_lo ya 100 (by omega)
  have y1 := pickP_hi ya 100 (by omega)
  have n0 := pickP_lo mo 12 (by omega)
  have n1 := pickP_hi mo 12 (by omega)
  have k0 := pickP_lo raw 3155760000 (by omega)
  have k1 := pickP_hi raw 3155760000 (by omega)
  have h0 := pickP_lo hr 24 (by omega)
  have h1 := pickP_hi hr 24 (by omega)
  have P1 := Lib.hid fun w => pick_is ya 100 _ w r0 r1 (by omega) (by omega) rfl
  have P2 := Lib.hid fun w => pick_is mo 12 _ w r2 r3 (by omega) (by omega) rfl
  have P3 := Lib.hid fun w => moment_is raw _ w r4 r5 rfl
  have P4 := Lib.hid fun w => pick_is hr 24 _ w r6 r7 (by omega) (by omega) rfl
  generalize pickP ya 100 = y at *
  generalize pickP mo 12 = n at *
  generalize pickP raw 3155760000 = k at *
  generalize pickP hr 24 = h at *
  obtain ⟨l1, l2⟩ := last_text y (1 + n) y0 (by omega) (by omega) (by omega)
  have L : Hid (∀ w, Calls Try.prog 25 #[.string (text4 y (1 + n))] w fun e w' => e = .returned (.tuple #[.int .i64 (endV y (1 + n)), .int .i64 0]) ∧ Below w.heap.size w w') := Lib.hid fun w => by
    have := last_any (text4 y (1 + n)) w (by rw [text4_size]; omega)
    rwa [l1, l2] at this
  have ed := end_day y (1 + n) y0 (by omega) (by omega) (by omega)
  obtain ⟨e0, e1, e2, e3, e4⟩ := end_parts y (1 + n) y0 (by omega) (by omega) (by omega)
  have en := end_next y (1 + n) y0 (by omega) (by omega) (by omega)
  generalize endV y (1 + n) = E at *
  have K1 : Hid (∀ w, Calls Try.prog 14 #[.int .i64 E] w fun e w' => e = .returned (.tuple #[.agg #[.int .i64 (2000 + y), .int .i64 (1 + n), .int .i64 (dim (2000 + y) (1 + n)), .int .i64 23, .int .i64 59, .int .i64 59], .int .i64 0]) ∧ Below w.heap.size w w') := Lib.hid fun w => by
    have := date_is E w e0 e1
    obtain ⟨f1, f2, f3⟩ := day_is ed
    unfold dateOf dateV at this
    rwa [← f1, ← f2, ← f3, e2, e3, e4] at this
  have K3 := Lib.hid fun w => date_is k w k0 (by omega)
  have v0 : 0 ≤ k / 3600 % 24 := by omega
  have v1 : k / 3600 % 24 ≤ 23 := by omega
  by_cases hE : E < 3155759999
  · obtain ⟨n4, n5⟩ := en hE
    have K2 : Hid (∀ w, Calls Try.prog 14 #[.int .i64 (E + 1)] w fun e w' => e = .returned (.tuple #[.agg #[.int .i64 (dY ((E + 1) / 86400)), .int .i64 (dM ((E + 1) / 86400)), .int .i64 1, .int .i64 0, .int .i64 ((E + 1) / 60 % 60), .int .i64 ((E + 1) % 60)], .int .i64 0]) ∧ Below w.heap.size w w') := Lib.hid fun w => by
      have := date_is (E + 1) w (by omega) (by omega)
      unfold dateOf dateV at this
      rwa [n4, n5] at this
    by_cases hz : h = 0
    · subst hz
      exact months_a _ _ _ _ y n k E _ _ _ _ _ _ _ _ _ _ _ (stampOf k) (busOf k) y0 (by omega) n0 (by omega) e0 hE k0 (by omega) (stampOf_size k) P1 P2 P3 P4 L K1 K2 K3 (Lib.hid fun w => business_same k 0 w k0 (by omega) (by omega) (by omega) (.inl rfl)) (Lib.hid fun w => stamp_is k w k0 (by omega)) (front4 k) w
    · by_cases hv : k / 3600 % 24 < h
      · exact months_b _ _ _ _ y n k E _ _ _ _ _ _ _ _ _ _ _ (stampOf k) (busOf k) y0 (by omega) n0 (by omega) e0 hE k0 (by omega) (stampOf_size k) h (by omega) (by omega) v0 v1 hv P1 P2 P3 P4 L K1 K2 K3 (Lib.hid fun w => business_same k h w k0 (by omega) (by omega) (by omega) (.inr hv)) (Lib.hid fun w => stamp_is k w k0 (by omega)) (front4 k) w
      · by_cases hk : k + 86400 ≤ 3155759999
        · exact months_c _ _ _ _ y n k E _ _ _ _ _ _ _ _ _ _ _ (stampOf (k + 86400)) (busOf (k + 86400)) y0 (by omega) n0 (by omega) e0 hE k0 (by omega) (stampOf_size _) h (by omega) (by omega) v0 v1 (by omega) P1 P2 P3 P4 L K1 K2 K3 (Lib.hid fun w => business_next k h w k0 (by omega) (by omega) (by omega) (by omega) hk) (Lib.hid fun w => stamp_is (k + 86400) w (by omega) hk) (front4 _) w
        · exact months_d _ _ _ _ y n k E _ _ _ _ _ _ _ _ _ _ _ (stampOf k) y0 (by omega) n0 (by omega) e0 hE k0 (by omega) (stampOf_size k) h (by omega) (by omega) v0 v1 (by omega) P1 P2 P3 P4 L K1 K2 K3 (Lib.hid fun w => business_late k h w k0 (by omega) (by omega) (by omega) (by omega) (by omega)) (Lib.hid fun w => stamp_no (k + 86400) w (by omega)) w
  · have hE' : E = 3155759999 := by omega
    have K2 := Lib.hid fun w => date_no 3155760000 w (by omega)
    by_cases hz : h = 0
    · subst hz
      exact months_e _ _ _ _ y n k E _ 0 0 0 0 _ _ _ _ _ _ (stampOf k) (busOf k) y0 (by omega) n0 (by omega) e0 hE' k0 (by omega) (stampOf_size k) P1 P2 P3 P4 L K1 K2 K3 (Lib.hid fun w => business_same k 0 w k0 (by omega) (by omega) (by omega) (.inl rfl)) (Lib.hid fun w => stamp_is k w k0 (by omega)) (front4 k) w
    · by_cases hv : k / 3600 % 24 < h
      · exact months_f _ _ _ _ y n k E _ 0 0 0 0 _ _ _ _ _ _ (stampOf k) (busOf k) y0 (by omega) n0 (by omega) e0 hE' k0 (by omega) (stampOf_size k) h (by omega) (by omega) v0 v1 hv P1 P2 P3 P4 L K1 K2 K3 (Lib.hid fun w => business_same k h w k0 (by omega) (by omega) (by omega) (.inr hv)) (Lib.hid fun w => stamp_is k w k0 (by omega)) (front4 k) w
      · by_cases hk : k + 86400 ≤ 3155759999
        · exact months_g _ _ _ _ y n k E _ 0 0 0 0 _ _ _ _ _ _ (stampOf (k + 86400)) (busOf (k + 86400)) y0 (by omega) n0 (by omega) e0 hE' k0 (by omega) (stampOf_size _) h (by omega) (by omega) v0 v1 (by omega) P1 P2 P3 P4 L K1 K2 K3 (Lib.hid fun w => business_next k h w k0 (by omega) (by omega) (by omega) (by omega) hk) (Lib.hid fun w => stamp_is (k + 86400) w (by omega) hk) (front4 _) w
        · exact months_h _ _ _ _ y n k E _ 0 0 0 0 _ _ _ _ _ _ (stampOf k) y0 (by omega) n0 (by omega) e0 hE' k0 (by omega) (stampOf_size k) h (by omega) (by omega) v0 v1 (by omega) P1 P2 P3 P4 L K1 K2 K3 (Lib.hid fun w => business_late k h w k0 (by omega) (by omega) (by omega) (by omega) (by omega)) (Lib.hid fun w => stamp_no (k + 86400) w (by omega)) w
end Go.Proofs.Ytghmmomlfhckgaa
