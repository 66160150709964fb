/-
  SessionLost: the plain law of its ticks, and the walk.
-/
import Derived.Test.YtcdikjomiomnpaaSes
import Derived.Deep.RegionWith
namespace Go.Proofs.Ytcdikjomiomnpaa
open Go.RowKit
set_option linter.unusedVariables false
set_option linter.unusedSimpArgs false

/-- The session behind k ticks. -/
def lostS (n m k : Int) : S :=
  if k < n then ⟨2, n, m, 3, 0, k, 0⟩
  else if k < n + m then ⟨2, n, m, 4, k - n, n, 1⟩
  else if k < n + 2 * m then ⟨2, n, m, 4, k - n - m, n, 2⟩
  else if k < n + 3 * m then ⟨2, n, m, 4, k - n - 2 * m, n, 3⟩
  else ⟨2, n, m, 0, 0, n, 3⟩
def lostY (n m i : Int) : Y :=
  if i = n ∨ i = n + m ∨ i = n + 2 * m then ⟨{ data := #[51, 48, 49] }, { data := #[] }, false⟩
  else if i = n + 3 * m then ⟨{ data := #[] }, { data := #[] }, true⟩ else ⟨{ data := #[] }, { data := #[] }, false⟩
theorem lost_good (n m k : Int) (hn : 1 ≤ n) (hn1 : n ≤ 100000) (hm : 1 ≤ m) (hm1 : m ≤ 100000) (hk : 0 ≤ k) : Good (lostS n m k) := by
  unfold lostS Good
  (repeat' split) <;> (refine ⟨?_, ?_, ?_, ?_, ?_, ?_, ?_, ?_⟩ <;> simp <;> omega)
theorem lost_tick (n m k : Int) (hn : 1 ≤ n) (hm : 1 ≤ m) (hk : 0 ≤ k) (hk1 : k < n + 3 * m) : tickS (lostS n m k) = lostS n m (k + 1) := by
  by_cases h1 : k < n
  · rw [show lostS n m k = ⟨2, n, m, 3, 0, k, 0⟩ by simp [lostS, h1]]
    by_cases h2 : k + 1 < n
    · have : ¬ n = 0 := by omega
      simp [tickS, lostS, h2, this]
    · have e : k + 1 = n := by omega
      have : ¬ n = 0 := by omega
      have e2 : n < n + m := by omega
      simp [tickS, lostS, e, this, e2]
  by_cases h2 : k < n + m
  · rw [show lostS n m k = ⟨2, n, m, 4, k - n, n, 1⟩ by simp [lostS, h1, h2]]
    by_cases h3 : k + 1 < n + m
    · have a1 : k - n + 1 < m := by omega
      have a2 : ¬ k + 1 < n := by omega
      have a3 : k - n + 1 = k + 1 - n := by omega
      simp [tickS, lostS, a2, h3, a1]; omega
    · have e : k + 1 = n + m := by omega
      have a1 : ¬ k - n + 1 < m := by omega
      have a2 : ¬ n + m < n := by omega
      have a3 : n + m < n + 2 * m := by omega
      simp [tickS, lostS, a1, e, a2, a3]; omega
  by_cases h3 : k < n + 2 * m
  · rw [show lostS n m k = ⟨2, n, m, 4, k - n - m, n, 2⟩ by simp [lostS, h1, h2, h3]]
    by_cases h4 : k + 1 < n + 2 * m
    · have a1 : k - n - m + 1 < m := by omega
      have a2 : ¬ k + 1 < n := by omega
      have a3 : ¬ k + 1 < n + m := by omega
      simp [tickS, lostS, a2, a3, h4, a1]; omega
    · have e : k + 1 = n + 2 * m := by omega
      have a1 : ¬ k - n - m + 1 < m := by omega
      have a2 : ¬ n + 2 * m < n := by omega
      have a3 : ¬ n + 2 * m < n + m := by omega
      have a4 : n + 2 * m < n + 3 * m := by omega
      simp [tickS, lostS, a1, e, a2, a3, a4]; omega
  · have h4 : k < n + 3 * m := hk1
    rw [show lostS n m k = ⟨2, n, m, 4, k - n - 2 * m, n, 3⟩ by simp [lostS, h1, h2, h3, h4]]
    by_cases h5 : k + 1 < n + 3 * m
    · have a1 : k - n - 2 * m + 1 < m := by omega
      have a2 : ¬ k + 1 < n := by omega
      have a3 : ¬ k + 1 < n + m := by omega
      have a4 : ¬ k + 1 < n + 2 * m := by omega
      simp [tickS, lostS, a2, a3, a4, h5, a1]; omega
    · have e : k + 1 = n + 3 * m := by omega
      have a1 : ¬ k - n - 2 * m + 1 < m := by omega
      have a2 : ¬ n + 3 * m < n := by omega
      have a3 : ¬ n + 3 * m < n + m := by omega
      have a4 : ¬ n + 3 * m < n + 2 * m := by omega
      simp [tickS, lostS, a1, e, a2, a3, a4]
theorem lost_says (n m k : Int) (hn : 1 ≤ n) (hm : 1 ≤ m) (hk : 0 ≤ k) (hk1 : k < n + 3 * m) : tickY (lostS n m k) = lostY n m (k + 1) := by
  by_cases h1 : k < n
  · rw [show lostS n m k = ⟨2, n, m, 3, 0, k, 0⟩ by simp [lostS, h1]]
    have h0 : ¬ n = 0 := by omega
    by_cases h2 : k + 1 < n
    · have a1 : ¬ (k + 1 = n ∨ k + 1 = n + m ∨ k + 1 = n + 2 * m) := by omega
      have a2 : ¬ k + 1 = n + 3 * m := by omega
      simp [tickY, lostY, h2, h0, a1, a2]; rfl
    · have a1 : k + 1 = n ∨ k + 1 = n + m ∨ k + 1 = n + 2 * m := by omega
      simp [tickY, lostY, h2, h0, a1]; rfl
  by_cases h2 : k < n + m
  · rw [show lostS n m k = ⟨2, n, m, 4, k - n, n, 1⟩ by simp [lostS, h1, h2]]
    by_cases h3 : k + 1 < n + m
    · have a0 : k - n + 1 < m := by omega
      have a1 : ¬ (k + 1 = n ∨ k + 1 = n + m ∨ k + 1 = n + 2 * m) := by omega
      have a2 : ¬ k + 1 = n + 3 * m := by omega
      simp [tickY, lostY, a0, a1, a2]; rfl
    · have a0 : ¬ k - n + 1 < m := by omega
      have a1 : k + 1 = n ∨ k + 1 = n + m ∨ k + 1 = n + 2 * m := by omega
      simp [tickY, lostY, a0, a1]; rfl
  by_cases h3 : k < n + 2 * m
  · rw [show lostS n m k = ⟨2, n, m, 4, k - n - m, n, 2⟩ by simp [lostS, h1, h2, h3]]
    by_cases h4 : k + 1 < n + 2 * m
    · have a0 : k - n - m + 1 < m := by omega
      have a1 : ¬ (k + 1 = n ∨ k + 1 = n + m ∨ k + 1 = n + 2 * m) := by omega
      have a2 : ¬ k + 1 = n + 3 * m := by omega
      simp [tickY, lostY, a0, a1, a2]; rfl
    · have a0 : ¬ k - n - m + 1 < m := by omega
      have a1 : k + 1 = n ∨ k + 1 = n + m ∨ k + 1 = n + 2 * m := by omega
      simp [tickY, lostY, a0, a1]; rfl
  · have h4 : k < n + 3 * m := hk1
    rw [show lostS n m k = ⟨2, n, m, 4, k - n - 2 * m, n, 3⟩ by simp [lostS, h1, h2, h3, h4]]
    have a1 : ¬ (k + 1 = n ∨ k + 1 = n + m ∨ k + 1 = n + 2 * m) := by omega
    by_cases h5 : k + 1 < n + 3 * m
    · have a0 : k - n - 2 * m + 1 < m := by omega
      have a2 : ¬ k + 1 = n + 3 * m := by omega
      simp [tickY, lostY, a0, a1, a2]; rfl
    · have a0 : ¬ k - n - 2 * m + 1 < m := by omega
      have a2 : k + 1 = n + 3 * m := by omega
      rw [show lostY n m (k + 1) = ⟨{ data := #[] }, { data := #[] }, true⟩ by unfold lostY; rw [if_neg a1, if_pos a2]]
      simp [tickY, a0]; rfl

theorem bnd (c n : Int) (hn : 0 < n) : 0 ≤ pickP c n ∧ pickP c n < n := ⟨pickP_lo c n hn, pickP_hi c n hn⟩

set_option maxRecDepth 100000 in
set_option maxHeartbeats 400000 in
theorem lost_zero (c d m : Int) (w : World) (h1 : -9223372036854775808 ≤ c) (h2 : c ≤ 9223372036854775807) (h3 : -9223372036854775808 ≤ d) (h4 : d ≤ 9223372036854775807)
    (hn : pickP c 100001 = 0) (hm : pickP d 100000 = m) (hm0 : 0 ≤ m) (hm1 : m < 100000) :
    Calls Try.prog 4 #[.int .i64 c, .int .i64 d] w fun e w' => e = .returned (.bool true) ∧ Below w.heap.size w w' := by
  have HN := Lib.hid hn
  have HM := Lib.hid hm
  clear hn hm
  go_enter Try.func4, Try.ntmps4
  go_wp2_with (first
    | (go_at_call_of 9 (Value.int IntKind.i64 c); refine (pick_is c 100001 0 _ h1 h2 (by omega) (by omega) HN.out).mono ?_; rintro e w' ⟨rfl, rfl⟩)
    | (go_at_call_of 9 (Value.int IntKind.i64 d); refine (pick_is d 100000 m _ h3 h4 (by omega) (by omega) HM.out).mono ?_; rintro e w' ⟨rfl, rfl⟩)
    | (go_at_call 10; refine (signedOn_ok 0 (1 + m) _ (by omega) (by omega) (by omega) (by omega)).mono ?_; rintro e w1 ⟨b, rfl, hs1⟩))
  go_loopw [8] (fun i wr => ∃ k : Int, 0 ≤ k ∧ k ≤ 300 ∧ i = .int .i64 k ∧ Ses w.heap.size w b ⟨2, 0, 1 + m, 3, 0, 0, 0⟩ wr) (fun i _ => (300 - intOf i).toNat)
  case atStart => exact ⟨0, by omega, by omega, rfl, hs1⟩
  case round =>
    obtain ⟨k, hk0, hk1, rfl, hs⟩ := hrel
    by_cases hlt : k < 300
    · go_wp2_with (first
        | (go_at_call 11; refine (tick_ses (s := ⟨2, 0, 1 + m, 3, 0, 0, 0⟩) ⟨2, 0, 1 + m, 3, 0, 0, 0⟩ { data := #[] } { data := #[] } false hs (by simp [Good]) (by simp [tickS]) (by simp [tickY]; rfl)).mono ?_; rintro e w2 ⟨rfl, hs2, hg2⟩)
        | (go_at_call 12; refine (nothing_is _ _ _ true _ nothing_quiet).mono ?_; rintro e w3 ⟨rfl, hb3⟩; have hs3 := (hs2.alloc _).call hb3)
        | (go_at_call 13; refine (state_ses 3 hs3 rfl).mono ?_; rintro e w' ⟨rfl, rfl⟩))
      go_roundw
      case rel => exact ⟨k + 1, by omega, by omega, by go_num, hs3⟩
      case measure => simp [intOf]; omega
    · go_wp2
      go_ret
      exact ⟨rfl, hs.2.2.1⟩

set_option maxRecDepth 100000 in
set_option maxHeartbeats 1600000 in
theorem lost_some (c d n m : Int) (w : World) (h1 : -9223372036854775808 ≤ c) (h2 : c ≤ 9223372036854775807) (h3 : -9223372036854775808 ≤ d) (h4 : d ≤ 9223372036854775807)
    (hn : pickP c 100001 = n) (hn0 : 1 ≤ n) (hn1 : n ≤ 100000) (hm : pickP d 100000 = m) (hm0 : 0 ≤ m) (hm1 : m < 100000) :
    Calls Try.prog 4 #[.int .i64 c, .int .i64 d] w fun e w' => e = .returned (.bool true) ∧ Below w.heap.size w w' := by
  have HN := Lib.hid hn
  have HM := Lib.hid hm
  clear hn hm
  have h00 : (n == 0) = false := by rw [beq_eq_false_iff_ne]; omega
  go_enter Try.func4, Try.ntmps4
  go_wp2_with (first
    | (go_at_call_of 9 (Value.int IntKind.i64 c); refine (pick_is c 100001 n _ h1 h2 (by omega) (by omega) HN.out).mono ?_; rintro e w' ⟨rfl, rfl⟩)
    | (go_at_call_of 9 (Value.int IntKind.i64 d); refine (pick_is d 100000 m _ h3 h4 (by omega) (by omega) HM.out).mono ?_; rintro e w' ⟨rfl, rfl⟩)
    | (go_at_call 10; refine (signedOn_ok n (1 + m) _ (by omega) (by omega) (by omega) (by omega)).mono ?_; rintro e w1 ⟨b, rfl, hs1⟩))
  go_loopw [11] (fun i wr => ∃ k : Int, 1 ≤ k ∧ k ≤ n + 3 * (1 + m) + 1 ∧ i = .int .i64 k ∧ Ses w.heap.size w b (lostS n (1 + m) (k - 1)) wr) (fun i _ => (n + 3 * (1 + m) + 1 - intOf i).toNat)
  case atStart => exact ⟨1, by omega, by omega, rfl, by rw [show lostS n (1 + m) (1 - 1) = ⟨2, n, 1 + m, 3, 0, 0, 0⟩ by unfold lostS; rw [if_pos (by omega)]; rfl]; exact hs1⟩
  case round =>
    obtain ⟨k, hk0, hk1, rfl, hs⟩ := hrel
    by_cases hout : n + 3 * (1 + m) < k
    · have HS : Hid (lostS n (1 + m) (k - 1) = ⟨2, n, 1 + m, 0, 0, n, 3⟩) := by show _ = _; unfold lostS; rw [if_neg (by omega), if_neg (by omega), if_neg (by omega), if_neg (by omega)]
      rw [HS.out] at hs
      go_wp2_with (first
        | (go_at_call 15; refine (asked_ses (s := ⟨2, n, 1 + m, 0, 0, n, 3⟩) _ ⟨2, n, 1 + m, 0, 0, n, 3⟩ { data := #[] } { data := #[] } false hs (.inr rfl) (by simp [askedS]) (by simp [askedY]; rfl)).mono ?_; rintro e w2 ⟨rfl, hs2, hg2⟩; have hl2 := hs2.lt; have hX : Blk (w2.alloc (.cells #[.string { data := #[] }, .string { data := #[] }, .bool false] 27)) w2.heap.size 27 #[.string { data := #[] }, .string { data := #[] }, .bool false] := Blk.new w2 27 _)
        | (go_at_call 11; refine (tick_ses (s := ⟨2, n, 1 + m, 0, 0, n, 3⟩) ⟨2, n, 1 + m, 0, 0, n, 3⟩ { data := #[] } { data := #[] } false (hs2.alloc _) (by simp [Good]; omega) (by simp [tickS]) (by simp [tickY]; rfl)).mono ?_; rintro e w3 ⟨rfl, hs3, hg3⟩; have hX3 := hX.grown hg3 (by intro e; injection e; omega); have hz3 := hX3.lt; have d0 := hX3.cell 0; have d1 := hX3.cell 1; have d2 := hX3.cell 2; simp at d0 d1 d2)
        | (go_at_call 12; refine (nothing_is _ _ _ true _ nothing_quiet).mono ?_; rintro e w4 ⟨rfl, hb4⟩; have hs4 := (hs3.alloc _).call hb4; have hX4 : Blk w4 w3.heap.size 27 #[.string { data := #[] }, .string { data := #[] }, .bool false] := (Blk.new w3 27 _).below hb4 (by simp); have q0 := hX4.cell 0; have q1 := hX4.cell 1; have q2 := hX4.cell 2; simp at q0 q1 q2; clear hX hX3 d0 d1 d2))
      refine (nothing_is _ _ _ true _ nothing_quiet).mono ?_
      rintro e w5 ⟨rfl, hb5⟩
      have hs5 := hs4.call hb5
      go_wp2_with (go_at_call 13; refine (state_ses 0 hs5 rfl).mono ?_; rintro e w' ⟨rfl, rfl⟩)
      go_ret
      exact ⟨rfl, hs5.2.2.1⟩
    by_cases hc1 : k = n
    · have hc0 := hc1.symm; subst hc0; clear hc1
      have HY : Hid (lostY n (1 + m) n = ⟨{ data := #[51, 48, 49] }, { data := #[] }, false⟩) := by show _ = _; unfold lostY; rw [if_pos (by omega)]
      have HR : Hid (readyB (lostS n (1 + m) n).state = true) := by show _ = _; unfold lostS; (repeat' split) <;> first | rfl | (exfalso; omega)
      go_wp2_with (first
        | (go_at_call 11; refine (tick_ses (lostS n (1 + m) n) { data := #[51, 48, 49] } { data := #[] } false hs (lost_good _ _ _ hn0 hn1 (by omega) (by omega) (by omega)) ((lost_tick n (1 + m) (n - 1) hn0 (by omega) (by omega) (by omega)).trans (by rw [Int.sub_add_cancel])) ((lost_says n (1 + m) (n - 1) hn0 (by omega) (by omega) (by omega)).trans (by rw [Int.sub_add_cancel]; exact HY.out))).mono ?_; rintro e w2 ⟨rfl, hs2, hg2⟩)
        | (go_at_call 12; refine (nothing_is _ _ _ false _ nothing_301).mono ?_; rintro e w3 ⟨rfl, hb3⟩; have hs3 := (hs2.alloc _).call hb3; have hX : Blk w3 w2.heap.size 27 #[.string { data := #[51, 48, 49] }, .string { data := #[] }, .bool false] := (Blk.new w2 27 _).below hb3 (by simp); have d0 := hX.cell 0; have d1 := hX.cell 1; have d2 := hX.cell 2; simp at d0 d1 d2; clear hX)
        | (go_at_call 17; refine (asks_is _ _ _ _ true _ asks_301).mono ?_; rintro e w4 ⟨rfl, hb4⟩; have hs4 := hs3.call hb4)
        | (go_at_call 18; refine (ready_ses true hs4 HR.out).mono ?_; rintro e w' ⟨rfl, rfl⟩))
      go_roundw
      case rel => exact ⟨n + 1, by omega, by omega, by go_num, by rw [Int.add_sub_cancel]; exact hs4⟩
      case measure => simp [intOf]; omega
    have b1 : k < n ∨ n < k := by omega
    by_cases hc2 : k = n + (1 + m)
    · subst hc2; clear hc1 b1
      have HY : Hid (lostY n (1 + m) (n + (1 + m)) = ⟨{ data := #[51, 48, 49] }, { data := #[] }, false⟩) := by show _ = _; unfold lostY; rw [if_pos (by omega)]
      have HR : Hid (readyB (lostS n (1 + m) (n + (1 + m))).state = true) := by show _ = _; unfold lostS; (repeat' split) <;> first | rfl | (exfalso; omega)
      go_wp2_with (first
        | (go_at_call 11; refine (tick_ses (lostS n (1 + m) (n + (1 + m))) { data := #[51, 48, 49] } { data := #[] } false hs (lost_good _ _ _ hn0 hn1 (by omega) (by omega) (by omega)) ((lost_tick n (1 + m) ((n + (1 + m)) - 1) hn0 (by omega) (by omega) (by omega)).trans (by rw [Int.sub_add_cancel])) ((lost_says n (1 + m) ((n + (1 + m)) - 1) hn0 (by omega) (by omega) (by omega)).trans (by rw [Int.sub_add_cancel]; exact HY.out))).mono ?_; rintro e w2 ⟨rfl, hs2, hg2⟩)
        | (go_at_call 12; refine (nothing_is _ _ _ false _ nothing_301).mono ?_; rintro e w3 ⟨rfl, hb3⟩; have hs3 := (hs2.alloc _).call hb3; have hX : Blk w3 w2.heap.size 27 #[.string { data := #[51, 48, 49] }, .string { data := #[] }, .bool false] := (Blk.new w2 27 _).below hb3 (by simp); have d0 := hX.cell 0; have d1 := hX.cell 1; have d2 := hX.cell 2; simp at d0 d1 d2; clear hX)
        | (go_at_call 17; refine (asks_is _ _ _ _ true _ asks_301).mono ?_; rintro e w4 ⟨rfl, hb4⟩; have hs4 := hs3.call hb4)
        | (go_at_call 18; refine (ready_ses true hs4 HR.out).mono ?_; rintro e w' ⟨rfl, rfl⟩))
      go_roundw
      case rel => exact ⟨(n + (1 + m)) + 1, by omega, by omega, by go_num, by rw [Int.add_sub_cancel]; exact hs4⟩
      case measure => simp [intOf]; omega
    have b2 : k < n + (1 + m) ∨ n + (1 + m) < k := by omega
    by_cases hc3 : k = n + 2 * (1 + m)
    · subst hc3; clear hc2 hc1 b1 b2
      have HY : Hid (lostY n (1 + m) (n + 2 * (1 + m)) = ⟨{ data := #[51, 48, 49] }, { data := #[] }, false⟩) := by show _ = _; unfold lostY; rw [if_pos (by omega)]
      have HR : Hid (readyB (lostS n (1 + m) (n + 2 * (1 + m))).state = true) := by show _ = _; unfold lostS; (repeat' split) <;> first | rfl | (exfalso; omega)
      go_wp2_with (first
        | (go_at_call 11; refine (tick_ses (lostS n (1 + m) (n + 2 * (1 + m))) { data := #[51, 48, 49] } { data := #[] } false hs (lost_good _ _ _ hn0 hn1 (by omega) (by omega) (by omega)) ((lost_tick n (1 + m) ((n + 2 * (1 + m)) - 1) hn0 (by omega) (by omega) (by omega)).trans (by rw [Int.sub_add_cancel])) ((lost_says n (1 + m) ((n + 2 * (1 + m)) - 1) hn0 (by omega) (by omega) (by omega)).trans (by rw [Int.sub_add_cancel]; exact HY.out))).mono ?_; rintro e w2 ⟨rfl, hs2, hg2⟩)
        | (go_at_call 12; refine (nothing_is _ _ _ false _ nothing_301).mono ?_; rintro e w3 ⟨rfl, hb3⟩; have hs3 := (hs2.alloc _).call hb3; have hX : Blk w3 w2.heap.size 27 #[.string { data := #[51, 48, 49] }, .string { data := #[] }, .bool false] := (Blk.new w2 27 _).below hb3 (by simp); have d0 := hX.cell 0; have d1 := hX.cell 1; have d2 := hX.cell 2; simp at d0 d1 d2; clear hX)
        | (go_at_call 17; refine (asks_is _ _ _ _ true _ asks_301).mono ?_; rintro e w4 ⟨rfl, hb4⟩; have hs4 := hs3.call hb4)
        | (go_at_call 18; refine (ready_ses true hs4 HR.out).mono ?_; rintro e w' ⟨rfl, rfl⟩))
      go_roundw
      case rel => exact ⟨(n + 2 * (1 + m)) + 1, by omega, by omega, by go_num, by rw [Int.add_sub_cancel]; exact hs4⟩
      case measure => simp [intOf]; omega
    have b3 : k < n + 2 * (1 + m) ∨ n + 2 * (1 + m) < k := by omega
    by_cases hc4 : k = n + 3 * (1 + m)
    · subst hc4; clear hc3 hc2 hc1 b1 b2 b3
      have HY : Hid (lostY n (1 + m) (n + 3 * (1 + m)) = ⟨{ data := #[] }, { data := #[] }, true⟩) := by show _ = _; unfold lostY; rw [if_neg (by omega), if_pos (by omega)]
      have HS : Hid ((lostS n (1 + m) (n + 3 * (1 + m))).state = 0) := by show _ = _; unfold lostS; rw [if_neg (by omega), if_neg (by omega), if_neg (by omega), if_neg (by omega)]
      have e1 : ((n + 3 * (1 + m) : Int) == n) = false := by rw [beq_eq_false_iff_ne]; omega
      have e2 : ((n + 3 * (1 + m) : Int) == n + (1 + m)) = false := by rw [beq_eq_false_iff_ne]; omega
      have e3 : ((n + 3 * (1 + m) : Int) == n + 2 * (1 + m)) = false := by rw [beq_eq_false_iff_ne]; omega
      go_wp2_with (first
        | (go_at_call 11; refine (tick_ses (lostS n (1 + m) (n + 3 * (1 + m))) { data := #[] } { data := #[] } true hs (lost_good _ _ _ hn0 hn1 (by omega) (by omega) (by omega)) ((lost_tick n (1 + m) ((n + 3 * (1 + m)) - 1) hn0 (by omega) (by omega) (by omega)).trans (by rw [Int.sub_add_cancel])) ((lost_says n (1 + m) ((n + 3 * (1 + m)) - 1) hn0 (by omega) (by omega) (by omega)).trans (by rw [Int.sub_add_cancel]; exact HY.out))).mono ?_; rintro e w2 ⟨rfl, hs2, hg2⟩)
        | (go_at_call 12; refine (nothing_is _ _ _ false _ nothing_lost).mono ?_; rintro e w3 ⟨rfl, hb3⟩; have hs3 := (hs2.alloc _).call hb3; have hX : Blk w3 w2.heap.size 27 #[.string { data := #[] }, .string { data := #[] }, .bool true] := (Blk.new w2 27 _).below hb3 (by simp); have d0 := hX.cell 0; have d1 := hX.cell 1; have d2 := hX.cell 2; simp at d0 d1 d2; clear hX)
        | (go_at_call 13; refine (state_ses 0 hs3 HS.out).mono ?_; rintro e w' ⟨rfl, rfl⟩)
        | (go_at_call 18; refine (ready_ses false hs3 (by rw [HS.out]; rfl)).mono ?_; rintro e w' ⟨rfl, rfl⟩))
      go_roundw
      case rel => exact ⟨(n + 3 * (1 + m)) + 1, by omega, by omega, by go_num, by rw [Int.add_sub_cancel]; exact hs3⟩
      case measure => simp [intOf]; omega
    · have b4 : k < n + 3 * (1 + m) := by omega
      clear hc4 hc3 hc2 hc1
      have HY : Hid (lostY n (1 + m) k = ⟨{ data := #[] }, { data := #[] }, false⟩) := by show _ = _; unfold lostY; rw [if_neg (by omega), if_neg (by omega)]
      have HR : Hid (readyB (lostS n (1 + m) k).state = true) := by show _ = _; unfold lostS; (repeat' split) <;> first | rfl | (exfalso; omega)
      have e1 : ((k : Int) == n) = false := by rw [beq_eq_false_iff_ne]; omega
      have e2 : ((k : Int) == n + (1 + m)) = false := by rw [beq_eq_false_iff_ne]; omega
      have e3 : ((k : Int) == n + 2 * (1 + m)) = false := by rw [beq_eq_false_iff_ne]; omega
      have e4 : ((k : Int) == n + 3 * (1 + m)) = false := by rw [beq_eq_false_iff_ne]; omega
      clear b1 b2 b3
      go_wp2_with (first
        | (go_at_call 11; refine (tick_ses (lostS n (1 + m) k) { data := #[] } { data := #[] } false hs (lost_good _ _ _ hn0 hn1 (by omega) (by omega) (by omega)) ((lost_tick n (1 + m) (k - 1) hn0 (by omega) (by omega) (by omega)).trans (by rw [Int.sub_add_cancel])) ((lost_says n (1 + m) (k - 1) hn0 (by omega) (by omega) (by omega)).trans (by rw [Int.sub_add_cancel]; exact HY.out))).mono ?_; rintro e w2 ⟨rfl, hs2, hg2⟩)
        | (go_at_call 12; refine (nothing_is _ _ _ true _ nothing_quiet).mono ?_; rintro e w3 ⟨rfl, hb3⟩; have hs3 := (hs2.alloc _).call hb3; have hX : Blk w3 w2.heap.size 27 #[.string { data := #[] }, .string { data := #[] }, .bool false] := (Blk.new w2 27 _).below hb3 (by simp); have d0 := hX.cell 0; have d1 := hX.cell 1; have d2 := hX.cell 2; simp at d0 d1 d2; clear hX)
        | (go_at_call 18; refine (ready_ses true hs3 HR.out).mono ?_; rintro e w' ⟨rfl, rfl⟩))
      go_roundw
      case rel => exact ⟨k + 1, by omega, by omega, by go_num, by rw [Int.add_sub_cancel]; exact hs3⟩
      case measure => simp [intOf]; omega

theorem lost_walk (c : Int) (h1 : -9223372036854775808 ≤ c) (h2 : c ≤ 9223372036854775807) (d : Int) (h3 : -9223372036854775808 ≤ d) (h4 : d ≤ 9223372036854775807) (w : World) :
    Calls Try.prog 4 #[.int .i64 c, .int .i64 d] w fun e w' => e = .returned (.bool true) ∧ Below w.heap.size w w' := by
  have a := bnd c 100001 (by omega)
  have b := bnd d 100000 (by omega)
  by_cases k : pickP c 100001 = 0
  · exact lost_zero c d _ w h1 h2 h3 h4 k rfl b.1 b.2
  · exact lost_some c d _ _ w h1 h2 h3 h4 rfl (by omega) (by omega) rfl b.1 b.2
end Go.Proofs.Ytcdikjomiomnpaa
