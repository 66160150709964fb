/-
  ClockBack: the Julian text of the next day, in plain Lean.
-/
import Derived.Test.YtghmmomlfhckgaaBack
namespace Go.Proofs.Ytghmmomlfhckgaa
open Go.RowKit
set_option linter.unusedVariables false
set_option linter.unusedSimpArgs false
def jt (c D : Int) : ByteArray := strOfNums [48 + c, 48 + D / 10 / 10 % 10, 48 + D / 10 % 10, 48 + D % 10]
theorem jt_up : ∀ D : Fin 366, ∀ c : Fin 10, 1 ≤ D.val → Op.bytesLess (jt c.val ((D.val : Int) + 1)).toList (jt c.val D.val).toList = false ∧ ((jt c.val ((D.val : Int) + 1)).toList == (jt c.val D.val).toList) = false ∧ (((jt c.val ((D.val : Int) + 1)).extract 1 4).toList == [48, 48, 49]) = false := by
  decide +kernel
theorem jt_one : ∀ c : Fin 10, (((jt c.val 1).extract 1 4).toList == [48, 48, 49]) = true := by decide +kernel
theorem jul_up (y D : Int) (h0 : 1 ≤ D) (h1 : D ≤ 365) : Op.bytesLess (jt (y % 10) (D + 1)).toList (jt (y % 10) D).toList = false ∧ ((jt (y % 10) (D + 1)).toList == (jt (y % 10) D).toList) = false ∧ (((jt (y % 10) (D + 1)).extract 1 4).toList == [48, 48, 49]) = false := by
  have h := jt_up ⟨D.toNat, by omega⟩ ⟨(y % 10).toNat, by omega⟩ (by show 1 ≤ D.toNat; omega)
  simp only [Int.toNat_of_nonneg (show 0 ≤ D by omega), Int.toNat_of_nonneg (show 0 ≤ y % 10 by omega)] at h
  exact h
theorem jul_one (y : Int) : (((jt (y % 10) 1).extract 1 4).toList == [48, 48, 49]) = true := by
  have h := jt_one ⟨(y % 10).toNat, by omega⟩
  simp only [Int.toNat_of_nonneg (show 0 ≤ y % 10 by omega)] at h
  exact h
theorem julV_jt (y m d : Int) : julV y m d = jt (y % 10) (ahd y m + d) := jul4 y m d
end Go.Proofs.Ytghmmomlfhckgaa
