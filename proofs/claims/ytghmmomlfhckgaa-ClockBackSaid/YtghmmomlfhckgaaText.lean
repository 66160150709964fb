/-
  Texts of digits: digits, two, number; Last: the program's and the document's.
-/
import Derived.Test.YtghmmomlfhckgaaBus
namespace Go.Proofs.Ytghmmomlfhckgaa
open Go.RowKit
set_option linter.unusedVariables false
set_option linter.unusedSimpArgs false
/-- The k-th byte, as a number. -/
def bt (s : ByteArray) (k : Nat) : Int := if h : k < s.size then ((s[k]'h).toNat : Int) else 0
theorem bt_get (s : ByteArray) (k : Nat) (h : k < s.size) : ((s[k]'h).toNat : Int) = bt s k := by unfold bt; rw [dif_pos h]
def allD (s : ByteArray) : Prop := ∀ k, k < s.size → 48 ≤ bt s k ∧ bt s k ≤ 57
theorem digits_all (s : ByteArray) (n : Int) (w : World) (hs : s.size ≤ 9223372036854775807) (hd : allD s) : Calls Try.prog 38 #[.string s, .int .i64 n] w fun e w' => e = .returned (.bool ((s.size : Int) == n)) ∧ w = w' := by
  go_enter Try.func38, Try.ntmps38
  go_wp2
  go_loop [8] (fun i => ∃ k : Nat, k ≤ s.size ∧ i = .int .i64 k) (fun i => s.size - (intOf i).toNat)
  case atStart => exact ⟨0, by omega, rfl⟩
  case round =>
    obtain ⟨k, hk, rfl⟩ := hrel
    by_cases hlt : k < s.size
    · have b := hd k hlt
      have b0 : (48 : Int) ≤ ((s[k]'hlt).toNat : Int) := by rw [bt_get]; exact b.1
      have b1 : ((s[k]'hlt).toNat : Int) ≤ 57 := by rw [bt_get]; exact b.2
      clear b
      go_wp2
      go_round
      case rel => exact ⟨k + 1, by omega, by go_num⟩
      case measure => simp [intOf]; omega
    · go_wp2
      go_ret
      exact ⟨rfl, rfl⟩
theorem digits_bad (s : ByteArray) (n : Int) (w : World) (hs : s.size ≤ 9223372036854775807) (hd : ¬ allD s) : Calls Try.prog 38 #[.string s, .int .i64 n] w fun e w' => e = .returned (.bool false) ∧ w = w' := by
  have HD := Lib.hid hd
  clear hd
  go_enter Try.func38, Try.ntmps38
  go_wp2
  go_loop [8] (fun i => ∃ k : Nat, k ≤ s.size ∧ i = .int .i64 k ∧ Hid (∀ j, j < k → 48 ≤ bt s j ∧ bt s j ≤ 57)) (fun i => s.size - (intOf i).toNat)
  case atStart => exact ⟨0, by omega, rfl, fun j h => by omega⟩
  case round =>
    obtain ⟨k, hk, rfl, hj⟩ := hrel
    by_cases hlt : k < s.size
    · by_cases h0 : (48 : Int) ≤ ((s[k]'hlt).toNat : Int)
      · by_cases h1 : ((s[k]'hlt).toNat : Int) ≤ 57
        · go_wp2
          go_round
          case rel =>
            refine ⟨k + 1, by omega, by go_num, fun j h => ?_⟩
            by_cases e : j = k
            · rw [e, ← bt_get s k hlt]; exact ⟨h0, h1⟩
            · exact hj.out j (by omega)
          case measure => simp [intOf]; omega
        · go_wp2
          go_ret
          exact ⟨rfl, rfl⟩
      · go_wp2
        go_ret
        exact ⟨rfl, rfl⟩
    · exact absurd (fun j h => hj.out j (by omega)) HD.out
def twoV (s : ByteArray) (k : Nat) : Int := 10 * (bt s k - 48) + (bt s (k + 1) - 48)
theorem twoV_bd {s : ByteArray} (h : allD s) (k : Nat) (hk : k + 1 < s.size) : 0 ≤ twoV s k ∧ twoV s k ≤ 99 := by
  have a := h k (by omega)
  have b := h (k + 1) hk
  unfold twoV
  omega

theorem two_k (s : ByteArray) (k : Nat) (w : World) (hs : k + 1 < s.size) (hk : k ≤ 100) (h : allD s) : Calls Try.prog 39 #[.string s, .int .i64 (k : Int)] w fun e w' => e = .returned (.int .i64 (twoV s k)) ∧ ∃ n, w' = w.drewN n := by
  have b := h k (by omega)
  have c := h (k + 1) hs
  rw [← bt_get s k (by omega)] at b
  rw [← bt_get s (k + 1) hs] at c
  obtain ⟨b0, b1⟩ := b
  obtain ⟨c0, c1⟩ := c
  have h1 : k < s.size := by omega
  have E : Hid (10 * (((s[k]'(by omega)).toNat : Int) - 48) + (((s[k + 1]'hs).toNat : Int) - 48) = twoV s k) := by
    show _ = _
    rw [bt_get, bt_get]; rfl
  clear h
  have W0 : IntKind.u8.wrap (((s[k]'(by omega)).toNat : Int) - 48) = ((s[k]'(by omega)).toNat : Int) - 48 := IntWalk.u8_in _ (by omega)
  have W1 : IntKind.u8.wrap (((s[k + 1]'(by omega)).toNat : Int) - 48) = ((s[k + 1]'(by omega)).toNat : Int) - 48 := IntWalk.u8_in _ (by omega)
  have W2 : IntKind.i64.wrap ((k : Int) + 1) = (k : Int) + 1 := IntWalk.i64_in _ (by omega)
  have W3 : ((k : Int) + 1).toNat = k + 1 := by omega
  have W4 : (0 : Int) ≤ (k : Int) := by omega
  have W5 : (0 : Int) ≤ (k : Int) + 1 := by omega
  have WI : (k : Int) + 1 < (s.size : Int) := by omega
  have W6 : IntKind.i64.wrap (((s[k]'(by omega)).toNat : Int) - 48) = ((s[k]'(by omega)).toNat : Int) - 48 := IntWalk.i64_in _ (by omega)
  have W7 : IntKind.i64.wrap (((s[k + 1]'(by omega)).toNat : Int) - 48) = ((s[k + 1]'(by omega)).toNat : Int) - 48 := IntWalk.i64_in _ (by omega)
  have W8 : IntKind.i64.wrap (10 * (((s[k]'(by omega)).toNat : Int) - 48)) = 10 * (((s[k]'(by omega)).toNat : Int) - 48) := IntWalk.i64_in _ (by omega)
  have W9 : IntKind.i64.wrap ((((s[k]'(by omega)).toNat : Int) - 48) * 10) = (((s[k]'(by omega)).toNat : Int) - 48) * 10 := IntWalk.i64_in _ (by omega)
  have WA : IntKind.i64.wrap (10 * (((s[k]'(by omega)).toNat : Int) - 48) + (((s[k + 1]'(by omega)).toNat : Int) - 48)) = 10 * (((s[k]'(by omega)).toNat : Int) - 48) + (((s[k + 1]'(by omega)).toNat : Int) - 48) := IntWalk.i64_in _ (by omega)
  have WB : IntKind.i64.wrap ((((s[k]'(by omega)).toNat : Int) - 48) * 10 + (((s[k + 1]'(by omega)).toNat : Int) - 48)) = (((s[k]'(by omega)).toNat : Int) - 48) * 10 + (((s[k + 1]'(by omega)).toNat : Int) - 48) := IntWalk.i64_in _ (by omega)
  go_enter Try.func39, Try.ntmps39
  go_wp2_with fail
  go_quiet (fail)
  go_wp2
  go_ret
  exact ⟨by rw [← E.out]; first | rfl | (rw [Int.mul_comm]; rfl), _, rfl⟩
theorem two_0 (s : ByteArray) (w : World) (hs : 1 < s.size) (h : allD s) : Calls Try.prog 39 #[.string s, .int .i64 0] w fun e w' => e = .returned (.int .i64 (twoV s 0)) ∧ Below w.heap.size w w' := (show Calls Try.prog 39 #[.string s, .int .i64 0] w fun e w' => e = .returned (.int .i64 (twoV s 0)) ∧ ∃ n, w' = w.drewN n from two_k s 0 w hs (by omega) h).mono fun e w' ⟨he, n, hw⟩ => ⟨he, by rw [hw]; exact below_drewN (Below.refl _ _) n⟩
theorem two_2 (s : ByteArray) (w : World) (hs : 3 < s.size) (h : allD s) : Calls Try.prog 39 #[.string s, .int .i64 2] w fun e w' => e = .returned (.int .i64 (twoV s 2)) ∧ Below w.heap.size w w' := (show Calls Try.prog 39 #[.string s, .int .i64 2] w fun e w' => e = .returned (.int .i64 (twoV s 2)) ∧ ∃ n, w' = w.drewN n from two_k s 2 w hs (by omega) h).mono fun e w' ⟨he, n, hw⟩ => ⟨he, by rw [hw]; exact below_drewN (Below.refl _ _) n⟩
theorem two_4 (s : ByteArray) (w : World) (hs : 5 < s.size) (h : allD s) : Calls Try.prog 39 #[.string s, .int .i64 4] w fun e w' => e = .returned (.int .i64 (twoV s 4)) ∧ Below w.heap.size w w' := (show Calls Try.prog 39 #[.string s, .int .i64 4] w fun e w' => e = .returned (.int .i64 (twoV s 4)) ∧ ∃ n, w' = w.drewN n from two_k s 4 w hs (by omega) h).mono fun e w' ⟨he, n, hw⟩ => ⟨he, by rw [hw]; exact below_drewN (Below.refl _ _) n⟩
theorem two_6 (s : ByteArray) (w : World) (hs : 7 < s.size) (h : allD s) : Calls Try.prog 39 #[.string s, .int .i64 6] w fun e w' => e = .returned (.int .i64 (twoV s 6)) ∧ Below w.heap.size w w' := (show Calls Try.prog 39 #[.string s, .int .i64 6] w fun e w' => e = .returned (.int .i64 (twoV s 6)) ∧ ∃ n, w' = w.drewN n from two_k s 6 w hs (by omega) h).mono fun e w' ⟨he, n, hw⟩ => ⟨he, by rw [hw]; exact below_drewN (Below.refl _ _) n⟩
theorem two_8 (s : ByteArray) (w : World) (hs : 9 < s.size) (h : allD s) : Calls Try.prog 39 #[.string s, .int .i64 8] w fun e w' => e = .returned (.int .i64 (twoV s 8)) ∧ Below w.heap.size w w' := (show Calls Try.prog 39 #[.string s, .int .i64 8] w fun e w' => e = .returned (.int .i64 (twoV s 8)) ∧ ∃ n, w' = w.drewN n from two_k s 8 w hs (by omega) h).mono fun e w' ⟨he, n, hw⟩ => ⟨he, by rw [hw]; exact below_drewN (Below.refl _ _) n⟩

theorem number_k (s : ByteArray) (k : Nat) (w : World) (hs : k + 1 < s.size) (hk : k ≤ 100) (h : allD s) : Calls Try.prog 41 #[.string s, .int .i64 (k : Int)] w fun e w' => e = .returned (.int .i64 (twoV s k)) ∧ ∃ n, w' = w.drewN n := by
  have b := h k (by omega)
  have c := h (k + 1) hs
  rw [← bt_get s k (by omega)] at b
  rw [← bt_get s (k + 1) hs] at c
  obtain ⟨b0, b1⟩ := b
  obtain ⟨c0, c1⟩ := c
  have h1 : k < s.size := by omega
  have E : Hid (10 * (((s[k]'(by omega)).toNat : Int) - 48) + (((s[k + 1]'hs).toNat : Int) - 48) = twoV s k) := by
    show _ = _
    rw [bt_get, bt_get]; rfl
  clear h
  have W0 : IntKind.u8.wrap (((s[k]'(by omega)).toNat : Int) - 48) = ((s[k]'(by omega)).toNat : Int) - 48 := IntWalk.u8_in _ (by omega)
  have W1 : IntKind.u8.wrap (((s[k + 1]'(by omega)).toNat : Int) - 48) = ((s[k + 1]'(by omega)).toNat : Int) - 48 := IntWalk.u8_in _ (by omega)
  have W2 : IntKind.i64.wrap ((k : Int) + 1) = (k : Int) + 1 := IntWalk.i64_in _ (by omega)
  have W3 : ((k : Int) + 1).toNat = k + 1 := by omega
  have W4 : (0 : Int) ≤ (k : Int) := by omega
  have W5 : (0 : Int) ≤ (k : Int) + 1 := by omega
  have WI : (k : Int) + 1 < (s.size : Int) := by omega
  have W6 : IntKind.i64.wrap (((s[k]'(by omega)).toNat : Int) - 48) = ((s[k]'(by omega)).toNat : Int) - 48 := IntWalk.i64_in _ (by omega)
  have W7 : IntKind.i64.wrap (((s[k + 1]'(by omega)).toNat : Int) - 48) = ((s[k + 1]'(by omega)).toNat : Int) - 48 := IntWalk.i64_in _ (by omega)
  have W8 : IntKind.i64.wrap (10 * (((s[k]'(by omega)).toNat : Int) - 48)) = 10 * (((s[k]'(by omega)).toNat : Int) - 48) := IntWalk.i64_in _ (by omega)
  have W9 : IntKind.i64.wrap ((((s[k]'(by omega)).toNat : Int) - 48) * 10) = (((s[k]'(by omega)).toNat : Int) - 48) * 10 := IntWalk.i64_in _ (by omega)
  have WA : IntKind.i64.wrap (10 * (((s[k]'(by omega)).toNat : Int) - 48) + (((s[k + 1]'(by omega)).toNat : Int) - 48)) = 10 * (((s[k]'(by omega)).toNat : Int) - 48) + (((s[k + 1]'(by omega)).toNat : Int) - 48) := IntWalk.i64_in _ (by omega)
  have WB : IntKind.i64.wrap ((((s[k]'(by omega)).toNat : Int) - 48) * 10 + (((s[k + 1]'(by omega)).toNat : Int) - 48)) = (((s[k]'(by omega)).toNat : Int) - 48) * 10 + (((s[k + 1]'(by omega)).toNat : Int) - 48) := IntWalk.i64_in _ (by omega)
  go_enter Try.func41, Try.ntmps41
  go_wp2_with fail
  go_quiet (fail)
  go_wp2
  go_ret
  exact ⟨by rw [← E.out]; first | rfl | (rw [Int.mul_comm]; rfl), _, rfl⟩
theorem number_0 (s : ByteArray) (w : World) (hs : 1 < s.size) (h : allD s) : Calls Try.prog 41 #[.string s, .int .i64 0] w fun e w' => e = .returned (.int .i64 (twoV s 0)) ∧ Below w.heap.size w w' := (show Calls Try.prog 41 #[.string s, .int .i64 0] w fun e w' => e = .returned (.int .i64 (twoV s 0)) ∧ ∃ n, w' = w.drewN n from number_k s 0 w hs (by omega) h).mono fun e w' ⟨he, n, hw⟩ => ⟨he, by rw [hw]; exact below_drewN (Below.refl _ _) n⟩
theorem number_2 (s : ByteArray) (w : World) (hs : 3 < s.size) (h : allD s) : Calls Try.prog 41 #[.string s, .int .i64 2] w fun e w' => e = .returned (.int .i64 (twoV s 2)) ∧ Below w.heap.size w w' := (show Calls Try.prog 41 #[.string s, .int .i64 2] w fun e w' => e = .returned (.int .i64 (twoV s 2)) ∧ ∃ n, w' = w.drewN n from number_k s 2 w hs (by omega) h).mono fun e w' ⟨he, n, hw⟩ => ⟨he, by rw [hw]; exact below_drewN (Below.refl _ _) n⟩
theorem number_4 (s : ByteArray) (w : World) (hs : 5 < s.size) (h : allD s) : Calls Try.prog 41 #[.string s, .int .i64 4] w fun e w' => e = .returned (.int .i64 (twoV s 4)) ∧ Below w.heap.size w w' := (show Calls Try.prog 41 #[.string s, .int .i64 4] w fun e w' => e = .returned (.int .i64 (twoV s 4)) ∧ ∃ n, w' = w.drewN n from number_k s 4 w hs (by omega) h).mono fun e w' ⟨he, n, hw⟩ => ⟨he, by rw [hw]; exact below_drewN (Below.refl _ _) n⟩
theorem number_6 (s : ByteArray) (w : World) (hs : 7 < s.size) (h : allD s) : Calls Try.prog 41 #[.string s, .int .i64 6] w fun e w' => e = .returned (.int .i64 (twoV s 6)) ∧ Below w.heap.size w w' := (show Calls Try.prog 41 #[.string s, .int .i64 6] w fun e w' => e = .returned (.int .i64 (twoV s 6)) ∧ ∃ n, w' = w.drewN n from number_k s 6 w hs (by omega) h).mono fun e w' ⟨he, n, hw⟩ => ⟨he, by rw [hw]; exact below_drewN (Below.refl _ _) n⟩
theorem number_8 (s : ByteArray) (w : World) (hs : 9 < s.size) (h : allD s) : Calls Try.prog 41 #[.string s, .int .i64 8] w fun e w' => e = .returned (.int .i64 (twoV s 8)) ∧ Below w.heap.size w w' := (show Calls Try.prog 41 #[.string s, .int .i64 8] w fun e w' => e = .returned (.int .i64 (twoV s 8)) ∧ ∃ n, w' = w.drewN n from number_k s 8 w hs (by omega) h).mono fun e w' ⟨he, n, hw⟩ => ⟨he, by rw [hw]; exact below_drewN (Below.refl _ _) n⟩
end Go.Proofs.Ytghmmomlfhckgaa
