/-
  ClockBack: the plain law.
-/
import Derived.Test.YtghmmomlfhckgaaKeep
namespace Go.Proofs.Ytghmmomlfhckgaa
open Go.RowKit
set_option linter.unusedVariables false
set_option linter.unusedSimpArgs false
theorem near_self (x : Int) (h0 : 0 ≤ x) (h1 : x ≤ 3155759999) : nearV (stampOf x) x = x ∧ nearE (stampOf x) x = 0 := by
  obtain ⟨n, n1, n2, n3, n4, n5, n6, n7⟩ := nearest x x h0 h1 h0 h1
  unfold farV at n6
  rw [if_neg (by omega : ¬ x < x)] at n6
  have : n = x := by split at n6 <;> omega
  subst this
  exact ⟨n1, n2⟩
theorem of_self (x : Int) (h0 : 0 ≤ x) (h1 : x ≤ 3155759999) : ofV (dY (x / 86400)) (dM (x / 86400)) (dD (x / 86400)) (x / 3600 % 24) (x / 60 % 60) (x % 60) = x ∧ ofE (dY (x / 86400)) (dM (x / 86400)) (dD (x / 86400)) (x / 3600 % 24) (x / 60 % 60) (x % 60) = 0 := by
  obtain ⟨v, e⟩ := mom_parts x h0 h1
  exact ⟨e, if_pos v⟩
theorem jul4 (y m d : Int) : julV y m d = strOfNums [48 + y % 10, 48 + (ahd y m + d) / 10 / 10 % 10, 48 + (ahd y m + d) / 10 % 10, 48 + (ahd y m + d) % 10] := by
  unfold julV d1 d3
  rw [son_append]; rfl
theorem jul_size (y m d : Int) : (julV y m d).size = 4 := by rw [jul4, son_size]; rfl
end Go.Proofs.Ytghmmomlfhckgaa
