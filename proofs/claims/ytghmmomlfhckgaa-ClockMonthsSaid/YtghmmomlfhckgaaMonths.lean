/-
  ClockMonths: the plain law of a month's end.
-/
import Derived.Test.YtghmmomlfhckgaaKeep
import Derived.Test.YtghmmomlfhckgaaLast
namespace Go.Proofs.Ytghmmomlfhckgaa
open Go.RowKit
set_option linter.unusedVariables false
set_option linter.unusedSimpArgs false
/-- A year of the century and a month, in four digits. -/
def text4 (y m : Int) : ByteArray := strOfNums [48 + y / 10, 48 + y % 10, 48 + m / 10, 48 + m % 10]
theorem text4_at0 (y m : Int) (h0 : 0 ≤ y) (h1 : y ≤ 99) : twoV (text4 y m) 0 = y := by
  unfold text4
  refine twoV_son _ 0 y h0 h1 ?_ rfl
  rw [show y / 10 % 10 = y / 10 by omega]; rfl
theorem text4_at2 (y m : Int) (h0 : 1 ≤ m) (h1 : m ≤ 12) : twoV (text4 y m) 2 = m := by
  unfold text4
  refine twoV_son _ 2 m (by omega) (by omega) ?_ rfl
  rw [show m / 10 % 10 = m / 10 by omega]; rfl
theorem text4_allD (y m : Int) (h0 : 0 ≤ y) (h1 : y ≤ 99) (m0 : 1 ≤ m) (m1 : m ≤ 12) : allD (text4 y m) := by
  unfold text4
  apply allD_son
  simp
  omega
theorem text4_size (y m : Int) : (text4 y m).size = 4 := by unfold text4; rw [son_size]; rfl
/-- The moment at which a month ends. -/
def endV (y m : Int) : Int := (bgn (2000 + y) + ahd (2000 + y) (m + 1)) * 86400 - 1
theorem last_text (y m : Int) (h0 : 0 ≤ y) (h1 : y ≤ 99) (m0 : 1 ≤ m) (m1 : m ≤ 12) : lastV (text4 y m) = endV y m ∧ lastE (text4 y m) = 0 := by
  have ok : okX (text4 y m) := by
    refine ⟨(okD_iff _).2 (text4_allD y m h0 h1 m0 m1), text4_size y m, ?_⟩
    rw [text4_at2 y m m0 m1]
    exact ⟨m0, m1⟩
  unfold lastV lastE endV exY
  rw [if_pos ok, if_pos ok, text4_at0 y m h0 h1, text4_at2 y m m0 m1]
  exact ⟨rfl, rfl⟩
theorem end_day (y m : Int) (h0 : 0 ≤ y) (h1 : y ≤ 99) (m0 : 1 ≤ m) (m1 : m ≤ 12) : IsDay (endV y m / 86400) (2000 + y) m (dim (2000 + y) m) := by
  have e := ahd_succ (2000 + y) m m0 m1
  have q := dim_lo (2000 + y) m
  refine ⟨by omega, by omega, m0, m1, by omega, by omega, ?_⟩
  unfold endV
  omega
theorem end_parts (y m : Int) (h0 : 0 ≤ y) (h1 : y ≤ 99) (m0 : 1 ≤ m) (m1 : m ≤ 12) : 0 ≤ endV y m ∧ endV y m ≤ 3155759999 ∧ endV y m / 3600 % 24 = 23 ∧ endV y m / 60 % 60 = 59 ∧ endV y m % 60 = 59 := by
  have b := (end_day y m h0 h1 m0 m1).bd
  unfold endV at b ⊢
  omega
/-- The moment behind a month's end is the first of a day's and of a month's, or lies behind the last one. -/
theorem end_next (y m : Int) (h0 : 0 ≤ y) (h1 : y ≤ 99) (m0 : 1 ≤ m) (m1 : m ≤ 12) (hl : endV y m < 3155759999) : dD ((endV y m + 1) / 86400) = 1 ∧ (endV y m + 1) / 3600 % 24 = 0 := by
  have d := end_day y m h0 h1 m0 m1
  have n := d.next
  have e : (endV y m + 1) / 86400 = endV y m / 86400 + 1 := by unfold endV; omega
  rw [e]
  have hh : (endV y m + 1) / 3600 % 24 = 0 := by unfold endV; omega
  refine ⟨?_, hh⟩
  rw [if_neg (by omega)] at n
  split at n
  · exact (day_is n).2.2.symm
  · split at n
    · exact (day_is n).2.2.symm
    · have : endV y m / 86400 = 36524 := n
      unfold endV at this hl
      omega
/-- What Business writes is the front of the stamp. -/
theorem stamp_front (t : Int) : ∃ r, stampOf t = busOf t ++ r ∧ (busOf t).size = 4 := by
  refine ⟨d2 (t / 3600 % 24) ++ d2 (t / 60 % 60) ++ d2 (t % 60), ?_, ?_⟩
  · unfold stampOf busOf stampV busV
    apply ByteArray.ext
    simp [ByteArray.data_append, Array.append_assoc]
  · unfold busOf busV d2
    rw [son_append, son_size]; rfl
end Go.Proofs.Ytghmmomlfhckgaa
