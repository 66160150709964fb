/-
  The chapter's examples hold: examples() returns true.
-/
import Derived.Test.YtghmmomlfhckgaaNear
namespace Go.Proofs.Ytghmmomlfhckgaa
open Go.RowKit
set_option linter.unusedVariables false
set_option linter.unusedSimpArgs false
theorem day_8825 : IsDay 8825 2024 2 29 := by
  refine ⟨by decide, by decide, by decide, by decide, by decide, by decide, by decide⟩
theorem day_36524 : IsDay 36524 2099 12 31 := by
  refine ⟨by decide, by decide, by decide, by decide, by decide, by decide, by decide⟩
theorem ex_of (w : World) : Calls Try.prog 12 #[.agg #[.int .i64 2024, .int .i64 2, .int .i64 29, .int .i64 12, .int .i64 34, .int .i64 56]] w fun e w' => e = .returned (.tuple #[.int .i64 762525296, .int .i64 0]) ∧ Below w.heap.size w w' := by
  have h := of_yes 2024 2 29 12 34 56 w (by unfold vldP; refine ⟨by decide, by decide, by decide, by decide, by decide, by decide, by decide, by decide, by decide, by decide, by decide, by decide⟩)
  have e : (bgn 2024 + ahd 2024 2 + 29 - 1) * 86400 + 12 * 3600 + 34 * 60 + 56 = 762525296 := by decide
  rw [e] at h
  exact h
theorem ex_date (w : World) : Calls Try.prog 14 #[.int .i64 3155759999] w fun e w' => e = .returned (.tuple #[.agg #[.int .i64 2099, .int .i64 12, .int .i64 31, .int .i64 23, .int .i64 59, .int .i64 59], .int .i64 0]) ∧ Below w.heap.size w w' :=
  (date_ok 3155759999 w (by decide) (by decide)).mono fun e w' ⟨y, m, d, hd, he, hb⟩ => by
    have e0 : (3155759999 : Int) / 86400 = 36524 := by decide
    rw [e0] at hd
    obtain ⟨rfl, rfl, rfl⟩ := hd.uniq day_36524
    exact ⟨he, hb⟩
theorem ex_stamp (w : World) : Calls Try.prog 22 #[.int .i64 762525296] w fun e w' => e = .returned (.tuple #[.string { data := #[48, 50, 50, 57, 49, 50, 51, 52, 53, 54] }, .int .i64 0]) ∧ Below w.heap.size w w' :=
  (stamp_ok 762525296 w (by decide) (by decide)).mono fun e w' ⟨y, m, d, hd, he, hb⟩ => by
    have e0 : (762525296 : Int) / 86400 = 8825 := by decide
    rw [e0] at hd
    obtain ⟨rfl, rfl, rfl⟩ := hd.uniq day_8825
    refine ⟨?_, hb⟩
    have e1 : stampV 2 29 (762525296 / 3600 % 24) (762525296 / 60 % 60) (762525296 % 60) = { data := #[48, 50, 50, 57, 49, 50, 51, 52, 53, 54] } := by decide
    rw [he, e1]
theorem ex_nearF (k : Nat) (hk : k + 1 ≤ 100) : nearF 31622400 12 31 23 59 59 (k + 1) = 31622399 := by
  induction k with
  | zero =>
    have v : vldP 2000 12 31 23 59 59 := by unfold vldP; refine ⟨by decide, by decide, by decide, by decide, by decide, by decide, by decide, by decide, by decide, by decide, by decide, by decide⟩
    rw [near_v 31622400 12 31 23 59 59 2000 0 rfl v (.inl (by decide))]
    unfold ofV
    rw [if_pos v]
    decide
  | succ k ih =>
    rw [near_n 31622400 12 31 23 59 59 (2000 + ((k + 1 : Nat) : Int)) (k + 1) rfl ?_]
    · exact ih (by omega)
    · rw [ih (by omega)]
      rintro ⟨v, h⟩
      unfold ofV at h
      rw [if_pos v] at h
      have a : 334 ≤ ahd (2000 + ((k + 1 : Nat) : Int)) 12 := by
        have l := lp_01 (2000 + ((k + 1 : Nat) : Int))
        unfold ahd; rw [if_neg (by decide), if_pos rfl]; omega
      have b := bgn_mono 2001 (2000 + ((k + 1 : Nat) : Int)) (by omega)
      have c : bgn 2001 = 366 := by decide
      have d : farV 31622399 31622400 = 1 := by decide
      rw [d] at h
      unfold farV at h
      rcases h with h | h
      · omega
      · split at h <;> omega
theorem ex_okD : okD { data := #[49, 50, 51, 49, 50, 51, 53, 57, 53, 57] } := by decide
theorem ex_near (w : World) : Calls Try.prog 18 #[.string { data := #[49, 50, 51, 49, 50, 51, 53, 57, 53, 57] }, .int .i64 31622400] w fun e w' => e = .returned (.tuple #[.int .i64 31622399, .int .i64 0]) ∧ Below w.heap.size w w' := by
  have h := near_ok { data := #[49, 50, 51, 49, 50, 51, 53, 57, 53, 57] } 31622400 w (by decide) (by decide) rfl ((okD_iff _).1 ex_okD)
  have e : stampF { data := #[49, 50, 51, 49, 50, 51, 53, 57, 53, 57] } 31622400 = 31622399 := by
    unfold stampF
    have e0 : twoV { data := #[49, 50, 51, 49, 50, 51, 53, 57, 53, 57] } 0 = 12 := by decide
    have e2 : twoV { data := #[49, 50, 51, 49, 50, 51, 53, 57, 53, 57] } 2 = 31 := by decide
    have e4 : twoV { data := #[49, 50, 51, 49, 50, 51, 53, 57, 53, 57] } 4 = 23 := by decide
    have e6 : twoV { data := #[49, 50, 51, 49, 50, 51, 53, 57, 53, 57] } 6 = 59 := by decide
    have e8 : twoV { data := #[49, 50, 51, 49, 50, 51, 53, 57, 53, 57] } 8 = 59 := by decide
    rw [e0, e2, e4, e6, e8]
    exact ex_nearF 99 (by omega)
  rw [e] at h
  exact h
theorem ex_weekday (w : World) : Calls Try.prog 23 #[.int .i64 0] w fun e w' => e = .returned (.tuple #[.int .i64 6, .int .i64 0]) ∧ w = w' := weekday_ok 0 w (by decide) (by decide)

set_option maxRecDepth 100000 in
set_option maxHeartbeats 1600000 in
theorem examples_ok (w : World) : Calls Try.prog 11 #[] w fun e w' => e = .returned (.bool true) ∧ Below w.heap.size w w' := by
  go_enter Try.func11, Try.ntmps11
  go_wp2_with (first
    | (go_at_call 12; refine (ex_of _).mono ?_; rintro e w1 ⟨rfl, hb1⟩)
    | (go_at_call 14; refine (ex_date _).mono ?_; rintro e w2 ⟨rfl, hb2⟩; have hb3 := (hb1.trans (hb2.mono hb1.size)); have hX := Blk.new w2 23 #[.int .i64 2099, .int .i64 12, .int .i64 31, .int .i64 23, .int .i64 59, .int .i64 59]; have hb4 := hb3.alloc hb3.size (.cells #[.int .i64 2099, .int .i64 12, .int .i64 31, .int .i64 23, .int .i64 59, .int .i64 59] 23))
    | (go_at_call 22; refine (ex_stamp _).mono ?_; rintro e w5 ⟨rfl, hb5⟩; have hX5 := hX.below hb5 (by simp); have hb6 := hb4.trans (hb5.mono hb4.size))
    | (go_at_call 18; refine (ex_near _).mono ?_; rintro e w7 ⟨rfl, hb7⟩; have hX7 := hX5.below hb7 hX5.lt; have hb8 := hb6.trans (hb7.mono hb6.size); have x0 := hX7.cell 0; have x1 := hX7.cell 1; have x2 := hX7.cell 2; have x3 := hX7.cell 3; have x4 := hX7.cell 4; have x5 := hX7.cell 5; simp at x0 x1 x2 x3 x4 x5; clear hX hX5 hX7)
    | (go_at_call 23; refine (ex_weekday _).mono ?_; rintro e w' ⟨rfl, rfl⟩))
  go_ret
  exact ⟨rfl, hb8⟩
end Go.Proofs.Ytghmmomlfhckgaa
