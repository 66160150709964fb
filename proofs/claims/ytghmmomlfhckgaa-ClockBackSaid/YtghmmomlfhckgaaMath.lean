/-
  Days and years, in plain integers: the calendar of the clock's statements.
-/
import Derived.KernelRfl
namespace Go.Proofs.Ytghmmomlfhckgaa
set_option linter.unusedVariables false

def lpB (y : Int) : Bool := (y.tmod 4 == 0 && y.tmod 100 != 0) || y.tmod 400 == 0
def lp (y : Int) : Int := if lpB y = true then 1 else 0
/-- Days of a year ahead of a month. -/
def ahd (y m : Int) : Int :=
  if m = 13 then 365 + lp y else if m = 12 then 334 + lp y else if m = 11 then 304 + lp y else if m = 10 then 273 + lp y else if m = 9 then 243 + lp y
  else if m = 8 then 212 + lp y else if m = 7 then 181 + lp y else if m = 6 then 151 + lp y else if m = 5 then 120 + lp y else if m = 4 then 90 + lp y
  else if m = 3 then 59 + lp y else if m = 2 then 31 else 0
/-- Days of a month. -/
def dim (y m : Int) : Int := if m = 4 ∨ m = 6 ∨ m = 9 ∨ m = 11 then 30 else if m = 2 then 28 + lp y else 31
/-- The day on which a year begins. -/
def bgn (y : Int) : Int := 365 * (y - 2000) + (y - 2000 + 3) / 4

theorem lp_01 (y : Int) : 0 ≤ lp y ∧ lp y ≤ 1 := by unfold lp; split <;> omega
theorem lpB_of (y : Int) (h0 : 2000 ≤ y) (h1 : y ≤ 2099) : lpB y = decide (y % 4 = 0) := by
  have e : ∀ k : Int, y.tmod k = y % k := fun k => Int.tmod_eq_emod_of_nonneg (by omega)
  unfold lpB
  rw [e, e, e, Bool.eq_iff_iff]
  simp
  omega
theorem lp_of (y : Int) (h0 : 2000 ≤ y) (h1 : y ≤ 2099) : lp y = if y % 4 = 0 then 1 else 0 := by
  unfold lp
  rw [lpB_of y h0 h1]
  simp
theorem bgn_succ (y : Int) (h0 : 2000 ≤ y) (h1 : y ≤ 2099) : bgn (y + 1) = bgn y + 365 + lp y := by
  rw [lp_of y h0 h1]
  unfold bgn
  split <;> omega
theorem bgn_lo (y : Int) (h0 : 2000 ≤ y) : 0 ≤ bgn y := by unfold bgn; omega
theorem bgn_hi (y : Int) (h0 : 2000 ≤ y) (h1 : y ≤ 2100) : bgn y ≤ 36525 := by unfold bgn; omega
theorem bgn_mono (a b : Int) (h : a ≤ b) : bgn a ≤ bgn b := by unfold bgn; omega
theorem bgn_2100 : bgn 2100 = 36525 := by decide
theorem bgn_2000 : bgn 2000 = 0 := by decide
theorem ahd_succ (y m : Int) (h0 : 1 ≤ m) (h1 : m ≤ 12) : ahd y (m + 1) = ahd y m + dim y m := by
  have h := lp_01 y
  have hm : m = 1 ∨ m = 2 ∨ m = 3 ∨ m = 4 ∨ m = 5 ∨ m = 6 ∨ m = 7 ∨ m = 8 ∨ m = 9 ∨ m = 10 ∨ m = 11 ∨ m = 12 := by omega
  rcases hm with rfl | rfl | rfl | rfl | rfl | rfl | rfl | rfl | rfl | rfl | rfl | rfl <;> simp [ahd, dim] <;> omega
theorem ahd_1 (y : Int) : ahd y 1 = 0 := by simp [ahd]
theorem ahd_13 (y : Int) : ahd y 13 = 365 + lp y := by simp [ahd]
theorem dim_lo (y m : Int) : 28 ≤ dim y m := by have := lp_01 y; unfold dim; (repeat' split) <;> omega
theorem dim_hi (y m : Int) : dim y m ≤ 31 := by have := lp_01 y; unfold dim; (repeat' split) <;> omega
theorem ahd_lo (y m : Int) : 0 ≤ ahd y m := by
  have h := lp_01 y
  generalize hl : lp y = l at h
  unfold ahd
  rw [hl]
  by_cases h13 : m = 13
  · rw [if_pos h13]; omega
  rw [if_neg h13]
  by_cases h12 : m = 12
  · rw [if_pos h12]; omega
  rw [if_neg h12]
  by_cases h11 : m = 11
  · rw [if_pos h11]; omega
  rw [if_neg h11]
  by_cases h10 : m = 10
  · rw [if_pos h10]; omega
  rw [if_neg h10]
  by_cases h9 : m = 9
  · rw [if_pos h9]; omega
  rw [if_neg h9]
  by_cases h8 : m = 8
  · rw [if_pos h8]; omega
  rw [if_neg h8]
  by_cases h7 : m = 7
  · rw [if_pos h7]; omega
  rw [if_neg h7]
  by_cases h6 : m = 6
  · rw [if_pos h6]; omega
  rw [if_neg h6]
  by_cases h5 : m = 5
  · rw [if_pos h5]; omega
  rw [if_neg h5]
  by_cases h4 : m = 4
  · rw [if_pos h4]; omega
  rw [if_neg h4]
  by_cases h3 : m = 3
  · rw [if_pos h3]; omega
  rw [if_neg h3]
  by_cases h2 : m = 2
  · rw [if_pos h2]; omega
  rw [if_neg h2]
  omega
theorem ahd_hi (y m : Int) : ahd y m ≤ 366 := by
  have h := lp_01 y
  generalize hl : lp y = l at h
  unfold ahd
  rw [hl]
  by_cases h13 : m = 13
  · rw [if_pos h13]; omega
  rw [if_neg h13]
  by_cases h12 : m = 12
  · rw [if_pos h12]; omega
  rw [if_neg h12]
  by_cases h11 : m = 11
  · rw [if_pos h11]; omega
  rw [if_neg h11]
  by_cases h10 : m = 10
  · rw [if_pos h10]; omega
  rw [if_neg h10]
  by_cases h9 : m = 9
  · rw [if_pos h9]; omega
  rw [if_neg h9]
  by_cases h8 : m = 8
  · rw [if_pos h8]; omega
  rw [if_neg h8]
  by_cases h7 : m = 7
  · rw [if_pos h7]; omega
  rw [if_neg h7]
  by_cases h6 : m = 6
  · rw [if_pos h6]; omega
  rw [if_neg h6]
  by_cases h5 : m = 5
  · rw [if_pos h5]; omega
  rw [if_neg h5]
  by_cases h4 : m = 4
  · rw [if_pos h4]; omega
  rw [if_neg h4]
  by_cases h3 : m = 3
  · rw [if_pos h3]; omega
  rw [if_neg h3]
  by_cases h2 : m = 2
  · rw [if_pos h2]; omega
  rw [if_neg h2]
  omega
theorem ahd_mono_nat (y a : Int) (n : Nat) (h0 : 1 ≤ a) (h1 : a + n ≤ 13) : ahd y a ≤ ahd y (a + n) := by
  induction n with
  | zero => simp
  | succ n ih =>
    have h := ih (by omega)
    have e := ahd_succ y (a + n) (by omega) (by omega)
    have d := dim_lo y (a + n)
    have e2 : a + ((n + 1 : Nat) : Int) = a + n + 1 := by omega
    rw [e2]; omega
theorem ahd_mono (y a b : Int) (h0 : 1 ≤ a) (h : a ≤ b) (h1 : b ≤ 13) : ahd y a ≤ ahd y b := by
  have h2 := ahd_mono_nat y a (b - a).toNat h0 (by omega)
  rwa [show a + ((b - a).toNat : Int) = b by omega] at h2

/-- n is the day y, m, d. -/
def IsDay (n y m d : Int) : Prop := 2000 ≤ y ∧ y ≤ 2099 ∧ 1 ≤ m ∧ m ≤ 12 ∧ 1 ≤ d ∧ d ≤ dim y m ∧ bgn y + ahd y m + d - 1 = n
theorem IsDay.in_year {n y m d : Int} (h : IsDay n y m d) : bgn y ≤ n ∧ n < bgn (y + 1) := by
  obtain ⟨h0, h1, h2, h3, h4, h5, h6⟩ := h
  have a := ahd_lo y m
  have b := ahd_succ y m h2 h3
  have c := ahd_mono y (m + 1) 13 (by omega) (by omega) (by omega)
  have e := bgn_succ y h0 h1
  rw [ahd_13] at c
  omega
theorem IsDay.in_month {n y m d : Int} (h : IsDay n y m d) : ahd y m ≤ n - bgn y ∧ n - bgn y < ahd y (m + 1) := by
  obtain ⟨h0, h1, h2, h3, h4, h5, h6⟩ := h
  have b := ahd_succ y m h2 h3
  omega
theorem IsDay.uniq {n y m d y' m' d' : Int} (h : IsDay n y m d) (h' : IsDay n y' m' d') : y = y' ∧ m = m' ∧ d = d' := by
  have a := h.in_year
  have a' := h'.in_year
  have ey : y = y' := by
    rcases Int.lt_trichotomy y y' with l | l | l
    · have := bgn_mono (y + 1) y' (by omega); omega
    · exact l
    · have := bgn_mono (y' + 1) y (by omega); omega
  subst ey
  have b := h.in_month
  have b' := h'.in_month
  have em : m = m' := by
    rcases Int.lt_trichotomy m m' with l | l | l
    · have := ahd_mono y (m + 1) m' (by have := h.2.2.1; omega) (by omega) (by have := h'.2.2.2.1; omega); omega
    · exact l
    · have := ahd_mono y (m' + 1) m (by have := h'.2.2.1; omega) (by omega) (by have := h.2.2.2.1; omega); omega
  subst em
  have c := h.2.2.2.2.2.2
  have c' := h'.2.2.2.2.2.2
  exact ⟨rfl, rfl, by omega⟩
theorem IsDay.next {n y m d : Int} (h : IsDay n y m d) : if d < dim y m then IsDay (n + 1) y m (d + 1) else if m < 12 then IsDay (n + 1) y (m + 1) 1 else if y < 2099 then IsDay (n + 1) (y + 1) 1 1 else n = 36524 := by
  obtain ⟨h0, h1, h2, h3, h4, h5, h6⟩ := h
  have b := ahd_succ y m h2 h3
  split
  · exact ⟨h0, h1, h2, h3, by omega, by omega, by omega⟩
  · split
    · have c := dim_lo y (m + 1)
      exact ⟨h0, h1, by omega, by omega, by omega, by omega, by omega⟩
    · have em : m = 12 := by omega
      subst em
      have e := bgn_succ y h0 h1
      have c := ahd_13 y
      have b' : ahd y 13 = ahd y 12 + dim y 12 := b
      split
      · have f := dim_lo (y + 1) 1
        exact ⟨by omega, by omega, by omega, by omega, by omega, by omega, by rw [ahd_1]; omega⟩
      · have ey : y = 2099 := by omega
        subst ey
        have := bgn_2100
        have e' : bgn 2100 = bgn 2099 + 365 + lp 2099 := e
        omega
theorem IsDay.ex_nat (k : Nat) (h : k ≤ 36524) : ∃ y m d, IsDay k y m d := by
  induction k with
  | zero => exact ⟨2000, 1, 1, by omega, by omega, by omega, by omega, by omega, by have := dim_lo 2000 1; omega, by rw [bgn_2000, ahd_1]; rfl⟩
  | succ k ih =>
    obtain ⟨y, m, d, hd⟩ := ih (by omega)
    have hn := hd.next
    have e : ((k + 1 : Nat) : Int) = (k : Int) + 1 := by omega
    rw [e]
    split at hn
    · exact ⟨_, _, _, hn⟩
    · split at hn
      · exact ⟨_, _, _, hn⟩
      · split at hn
        · exact ⟨_, _, _, hn⟩
        · omega
theorem IsDay.ex (n : Int) (h0 : 0 ≤ n) (h1 : n ≤ 36524) : ∃ y m d, IsDay n y m d := by
  obtain ⟨k, rfl⟩ : ∃ k : Nat, n = k := ⟨n.toNat, by omega⟩
  exact IsDay.ex_nat k (by omega)
theorem IsDay.bd {n y m d : Int} (h : IsDay n y m d) : 0 ≤ n ∧ n ≤ 36524 := by
  have a := h.in_year
  have b := bgn_lo y h.1
  have c := bgn_mono (y + 1) 2100 (by have := h.2.1; omega)
  have e := bgn_2100
  omega

open Classical in
noncomputable def dayOf (n : Int) : Int × Int × Int :=
  if h : ∃ t : Int × Int × Int, IsDay n t.1 t.2.1 t.2.2 then Classical.choose h else (0, 0, 0)
noncomputable def dY (n : Int) : Int := (dayOf n).1
noncomputable def dM (n : Int) : Int := (dayOf n).2.1
noncomputable def dD (n : Int) : Int := (dayOf n).2.2
theorem day_spec (n : Int) (h0 : 0 ≤ n) (h1 : n ≤ 36524) : IsDay n (dY n) (dM n) (dD n) := by
  obtain ⟨y, m, d, h⟩ := IsDay.ex n h0 h1
  have he : ∃ t : Int × Int × Int, IsDay n t.1 t.2.1 t.2.2 := ⟨(y, m, d), h⟩
  have e : dayOf n = Classical.choose he := by unfold dayOf; rw [dif_pos he]
  unfold dY dM dD
  rw [e]
  exact Classical.choose_spec he
theorem day_is {n y m d : Int} (h : IsDay n y m d) : y = dY n ∧ m = dM n ∧ d = dD n := h.uniq (day_spec n h.bd.1 h.bd.2)

/-- Is it a date? -/
def vldP (y m d h i s : Int) : Prop := 2000 ≤ y ∧ y ≤ 2099 ∧ 1 ≤ m ∧ m ≤ 12 ∧ 1 ≤ d ∧ d ≤ dim y m ∧ 0 ≤ h ∧ h ≤ 23 ∧ 0 ≤ i ∧ i ≤ 59 ∧ 0 ≤ s ∧ s ≤ 59
instance (y m d h i s : Int) : Decidable (vldP y m d h i s) := by unfold vldP; infer_instance
/-- Of: the moment, the error. -/
def ofV (y m d h i s : Int) : Int := if vldP y m d h i s then (bgn y + ahd y m + d - 1) * 86400 + h * 3600 + i * 60 + s else 0
def ofE (y m d h i s : Int) : Int := if vldP y m d h i s then 0 else 80
def isMom (t : Int) : Prop := 0 ≤ t ∧ t ≤ 3155759999
theorem ofV_bd {y m d h i s : Int} (v : vldP y m d h i s) : 0 ≤ ofV y m d h i s ∧ ofV y m d h i s ≤ 3155759999 := by
  obtain ⟨h0, h1, h2, h3, h4, h5, h6⟩ := v
  have b := (show IsDay _ y m d from ⟨h0, h1, h2, h3, h4, h5, rfl⟩).bd
  unfold ofV
  rw [if_pos ⟨h0, h1, h2, h3, h4, h5, h6⟩]
  omega
end Go.Proofs.Ytghmmomlfhckgaa
