/-
  form, sign, worth, read, Decode, each by its contract.
-/
import Derived.Test.YtieloocmkgficaaTrip
import Derived.Test.YtieloocmkgficaaHas
namespace Go.Proofs.Ytieloocmkgficaa
open Go.RowKit
set_option linter.unusedVariables false
set_option linter.unusedSimpArgs false
theorem form_any (enc : Int) (w : World) : Calls Try.prog 47 #[.int .i64 enc] w fun e w' => e = .returned (.int .i64 (formV enc)) ∧ w = w' := by
  unfold formV
  by_cases h5 : enc = 5
  · subst h5
    go_enter Try.func47, Try.ntmps47
    go_wp2
    go_ret
    exact ⟨rfl, rfl⟩
  by_cases h1 : enc = 1
  · subst h1
    go_enter Try.func47, Try.ntmps47
    go_wp2
    go_ret
    exact ⟨rfl, rfl⟩
  by_cases h4 : enc = 4
  · subst h4
    go_enter Try.func47, Try.ntmps47
    go_wp2
    go_ret
    exact ⟨rfl, rfl⟩
  · rw [if_neg h5, if_neg h1, if_neg h4]
    have e5 : (enc == 5) = false := by rw [beq_eq_false_iff_ne]; exact h5
    have e1 : (enc == 1) = false := by rw [beq_eq_false_iff_ne]; exact h1
    have e4 : (enc == 4) = false := by rw [beq_eq_false_iff_ne]; exact h4
    clear h1 h4 h5
    go_enter Try.func47, Try.ntmps47
    go_wp2
    go_ret
    exact ⟨rfl, rfl⟩
theorem sign_any (f n : Int) (w : World) (h0 : 0 ≤ n) (h1 : n < 16) : Calls Try.prog 55 #[.int .i64 f, .int .u8 n] w fun e w' => e = .returned (.int .u8 (sgn f n)) ∧ w = w' := by
  unfold sgn
  by_cases hf : f = 3
  · subst hf
    rw [if_pos rfl]
    by_cases hn : n < 10
    · rw [if_pos hn]
      have g : decide (n < 10) = true := decide_eq_true hn
      go_enter Try.func55, Try.ntmps55
      go_wp2
      go_ret
      exact ⟨rfl, rfl⟩
    · rw [if_neg hn]
      have g : decide (n < 10) = false := decide_eq_false hn
      go_enter Try.func55, Try.ntmps55
      go_wp2
      go_ret
      exact ⟨rfl, rfl⟩
  · rw [if_neg hf]
    have e3 : (f == 3) = false := by rw [beq_eq_false_iff_ne]; exact hf
    clear hf
    by_cases hn : n < 10
    · rw [if_pos hn]
      have g : decide (n < 10) = true := decide_eq_true hn
      go_enter Try.func55, Try.ntmps55
      go_wp2
      go_ret
      exact ⟨rfl, rfl⟩
    · rw [if_neg hn]
      have g : decide (n < 10) = false := decide_eq_false hn
      go_enter Try.func55, Try.ntmps55
      go_wp2
      go_ret
      exact ⟨rfl, rfl⟩
theorem wor_no {f b : Int} (hf : f ≠ 1) (hj : ∀ j : Int, 0 ≤ j → j < 16 → sgn f j ≠ b) : worV f b = -1 := by
  rcases Int.lt_or_le (worV f b) 0 with h | h
  · have := (wor_rng f b).1; omega
  · exact absurd (wor_sgn f b h) (hj _ h (wor_rng f b).2)
theorem sgn_inj {f m n : Int} (h0 : 0 ≤ m) (h1 : m < 16) (g0 : 0 ≤ n) (g1 : n < 16) (h : sgn f m = sgn f n) : m = n := by
  have a := sgn_wor f m h0 h1
  have b := sgn_wor f n g0 g1
  rw [h] at a; omega
def worN (f b : Int) : Int := if worV f b < 0 then 0 else worV f b
theorem worth_any (f b : Int) (w : World) (hf : f ≠ 1) : Calls Try.prog 57 #[.int .i64 f, .int .u8 b] w fun e w' => e = .returned (.tuple #[.int .u64 (worN f b), .bool (decide (0 ≤ worV f b))]) ∧ w = w' := by
  go_enter Try.func57, Try.ntmps57
  go_wp2
  go_loop [6] (fun i => ∃ k : Nat, k ≤ 16 ∧ i = .int .u8 k ∧ Hid (∀ j : Int, 0 ≤ j → j < k → sgn f j ≠ b)) (fun i => 16 - (intOf i).toNat)
  case atStart => exact ⟨0, by omega, rfl, fun j h h' => by omega⟩
  case round =>
    obtain ⟨k, hk, rfl, hj⟩ := hrel
    by_cases hlt : k < 16
    · rcases Bool.eq_false_or_eq_true (sgn f k == b) with hs | hs
      · have HS := Lib.hid hs
        go_wp2_with (go_at_call 55; refine (sign_any _ _ _ (by omega) (by omega)).mono ?_; rintro e w' ⟨rfl, rfl⟩)
        go_ret2
        have e1 : worV f b = k := by rw [← (beq_iff_eq.1 HS.out), sgn_wor f k (by omega) (by omega)]
        exact ⟨by unfold worN; rw [e1, if_neg (by omega), decide_eq_true (by omega)]; rfl, rfl⟩
      · have HS := Lib.hid hs
        go_wp2_with (go_at_call 55; refine (sign_any _ _ _ (by omega) (by omega)).mono ?_; rintro e w' ⟨rfl, rfl⟩)
        go_round
        case rel =>
          refine ⟨k + 1, by omega, by go_num, fun j h h' => ?_⟩
          by_cases e : j = k
          · rw [e]; exact beq_eq_false_iff_ne.1 HS.out
          · exact hj.out j h (by omega)
        case measure => simp [intOf]; omega
    · have e1 : worV f b = -1 := wor_no hf (fun j h h' => hj.out j h (by omega))
      have E1 := Lib.hid e1
      clear e1
      go_wp2
      go_ret2
      exact ⟨by unfold worN; rw [E1.out]; rfl, rfl⟩
end Go.Proofs.Ytieloocmkgficaa
