/-
  SessionSigns: the walk.
-/
import Derived.Test.YtcdikjomiomnpaaSes
import Derived.Deep.RegionWith
namespace Go.Proofs.Ytcdikjomiomnpaa
open Go.RowKit
set_option linter.unusedVariables false
set_option linter.unusedSimpArgs false
theorem Ses.far {B : Nat} {w0 w : World} {b g i : Nat} {s : S} (h : Ses B w0 b s w) (hne : b ≠ g) (hB : B ≤ g) (u : Value) : Ses B w0 b s (w.setCell ⟨g, i, none⟩ u) :=
  ⟨h.1.far_ hne u, h.2.1, h.2.2.1.setCell (p := ⟨g, i, none⟩) hB u, by simpa [World.setCell] using h.2.2.2⟩
theorem Blk.store3 {w : World} {g : Nat} {t : TypeId} {x0 x1 x2 : Value} (h : Blk w g t #[x0, x1, x2]) (a b c : Value) :
    Blk (((w.setCell ⟨g, 0, none⟩ a).setCell ⟨g, 1, none⟩ b).setCell ⟨g, 2, none⟩ c) g t #[a, b, c] := (((h.set_ 0 a).set_ 1 b).set_ 2 c)
theorem emod_pred (k m : Int) (hm : 1 ≤ m) (h : ¬ k % m = 0) : (k - 1) % m = k % m - 1 := by
  have h0 := Int.emod_nonneg k (show m ≠ 0 by omega)
  have h1 := Int.emod_lt_of_pos k (show 0 < m by omega)
  have e : k - 1 = (k % m - 1) + m * (k / m) := by have := Int.emod_add_mul_ediv k m; omega
  rw [e, Int.add_mul_emod_self_left, Int.emod_eq_of_lt (by omega) (by omega)]
theorem emod_pred0 (k m : Int) (hm : 1 ≤ m) (h : k % m = 0) : (k - 1) % m = m - 1 := by
  have e : k - 1 = (m - 1) + m * (k / m - 1) := by have := Int.emod_add_mul_ediv k m; rw [Int.mul_sub]; omega
  rw [e, Int.add_mul_emod_self_left, Int.emod_eq_of_lt (by omega) (by omega)]

theorem signs_tick (m k : Int) (hm : 1 ≤ m) (h : ¬ k % m = 0) : tickS ⟨2, 5, m, 2, (k - 1) % m, 0, 0⟩ = ⟨2, 5, m, 2, k % m, 0, 0⟩ ∧ tickY ⟨2, 5, m, 2, (k - 1) % m, 0, 0⟩ = quietY := by
  have h1 := Int.emod_lt_of_pos k (show 0 < m by omega)
  have e := emod_pred k m hm h
  have e2 : (k - 1) % m + 1 < m := by omega
  constructor
  · simp [tickS, e2]; omega
  · simp [tickY, e2]
theorem signs_tick0 (m k : Int) (hm : 1 ≤ m) (h : k % m = 0) : tickS ⟨2, 5, m, 2, (k - 1) % m, 0, 0⟩ = ⟨2, 5, m, 2, k % m, 0, 0⟩ ∧ tickY ⟨2, 5, m, 2, (k - 1) % m, 0, 0⟩ = askY c001 := by
  have e := emod_pred0 k m hm h
  have e2 : ¬ (k - 1) % m + 1 < m := by omega
  constructor
  · simp [tickS, e2]; omega
  · simp [tickY, e2]
theorem wait_bd (m k : Int) (hm : 1 ≤ m) (hm1 : m ≤ 200) : Good ⟨2, 5, m, 2, (k - 1) % m, 0, 0⟩ := by
  have h0 := Int.emod_nonneg (k - 1) (show m ≠ 0 by omega)
  have h1 := Int.emod_lt_of_pos (k - 1) (show 0 < m by omega)
  simp [Good]; omega

set_option maxRecDepth 100000 in
set_option maxHeartbeats 3200000 in
theorem signs_a (c d e : Int) (code other : ByteArray) (m r p : Int) (w : World) (l1 : -9223372036854775808 ≤ c) (l2 : c ≤ 9223372036854775807) (l3 : -9223372036854775808 ≤ d) (l4 : d ≤ 9223372036854775807) (l5 : -9223372036854775808 ≤ e) (l6 : e ≤ 9223372036854775807)
    (hm : pickP c 200 = m) (hr : pickP d 9 = r) (hp : pickP e 7 = p) (hm0 : 0 ≤ m) (hm1 : m < 200) (hr0 : 0 ≤ r) (hr1 : r < 9) (hp0 : 0 ≤ p) (hp1 : p < 7) (hc : (code.toList == [48, 48, 49]) = true) (ho : (other.toList == [48, 48]) = true)
    (hd : (code.toList == [48, 48, 50]) = false) :
    Calls Try.prog 5 #[.int .i64 c, .int .i64 d, .string code, .string other, .int .i64 e] w fun e w' => e = .returned (.bool true) ∧ Below w.heap.size w w' := by
  have HM := Lib.hid hm
  have HR := Lib.hid hr
  have HP := Lib.hid hp
  have q0 : 0 ≤ (1 + m) * r := Int.mul_nonneg (by omega) (by omega)
  have q1 : (1 + m) * r ≤ 1800 := by
    have a := Int.mul_le_mul_of_nonneg_left (show r ≤ 9 by omega) (show 0 ≤ 1 + m by omega)
    omega
  have HA : ∀ x : Int, Hid (answeredS ⟨2, 5, 1 + m, 2, x, 0, 0⟩ code.toList (ByteArray.toList { data := #[48, 49] }) = ⟨2, 5, 1 + m, 2, x, 0, 0⟩) := by
    intro x
    show _ = _
    simp [answeredS, heardS, ByteArray.toList_eq]
  have HK : ∀ x : Int, Hid (askedS ⟨2, 5, 1 + m, 2, x, 0, 0⟩ (ByteArray.toList code) = ⟨2, 5, 1 + m, 2, x, 0, 0⟩) := by
    intro x
    show _ = _
    have hd' : ¬ code.toList = [48, 48, 50] := by simpa using hd
    simp [askedS, heardS, hd']
  obtain ⟨ka, HY, HZ⟩ : ∃ ka : ByteArray, Hid (∀ x : Int, askedY ⟨2, 5, 1 + m, 2, x, 0, 0⟩ code = ⟨code, ka, false⟩) ∧ ka.toList.isEmpty = false := by
    refine ⟨askedA ⟨2, 5, 1 + m, 2, 0, 0, 0⟩ (ByteArray.toList code), ?_, ?_⟩
    · show ∀ x : Int, _
      intro x
      simp [askedY, askedA]
    · unfold askedA; split <;> simp [c00, c12, ByteArray.toList_eq]
  clear hm hr hp
  go_enter Try.func5, Try.ntmps5
  go_wp2_with (first
    | (go_at_call_of 9 (Value.int IntKind.i64 c); refine (pick_is c 200 m _ l1 l2 (by omega) (by omega) HM.out).mono ?_; rintro e w' ⟨rfl, rfl⟩)
    | (go_at_call 19; refine (new_ses (B := w.heap.size) (w0 := w) 2 5 (1 + m) _ (Nat.le_refl _) (Below.refl _ _) (.inr rfl) (by omega) (by omega) (by omega) (by omega)).mono ?_; rintro e w1 ⟨b, hbe, rfl, hs1, hb1⟩; have HB := Lib.hid hbe; clear hbe)
    | (go_at_call 20; refine (up_ses (s := ⟨2, 5, 1 + m, 0, 0, 0, 0⟩) ⟨2, 5, 1 + m, 2, 0, 0, 0⟩ { data := #[48, 48, 49] } { data := #[] } false hs1 (.inr rfl) rfl rfl).mono ?_; rintro e w2 ⟨rfl, hs2, hg2⟩)
    | (go_at_call 17; refine (asks_is _ _ _ _ true _ asks_001).mono ?_; rintro e w3 ⟨rfl, hb3⟩; have hs3 := (hs2.alloc _).call hb3; have hX3 : Blk w3 w2.heap.size 27 #[.string { data := #[48, 48, 49] }, .string { data := #[] }, .bool false] := (Blk.new w2 27 _).below hb3 (by simp); have hne3 : b < w2.heap.size := hs2.lt))
  obtain ⟨gx, hgx⟩ : ∃ gx, gx = w2.heap.size := ⟨_, rfl⟩
  rw [← hgx] at hX3 hne3
  rw [← hgx]
  have HGX := Lib.hid hgx
  have hBx : w.heap.size ≤ gx := by have := hs1.2.1; omega
  clear hgx hb3 hg2 hs2 hs1 hb1 HB
  go_loopw [17] (fun i wr => ∃ (k : Int) (x0 x1 : ByteArray) (x2 : Bool), 1 ≤ k ∧ k ≤ (1 + m) * r + 1 ∧ i = .int .i64 k ∧ Ses w.heap.size w b ⟨2, 5, 1 + m, 2, (k - 1) % (1 + m), 0, 0⟩ wr ∧ Blk wr gx 27 #[.string x0, .string x1, .bool x2]) (fun i _ => ((1 + m) * r + 1 - intOf i).toNat)
  case atStart => exact ⟨1, _, _, _, by omega, by omega, rfl, by simpa using hs3, hX3⟩
  case round =>
    obtain ⟨k, x0, x1, x2, hk0, hk1, rfl, hs, hX⟩ := hrel
    clear hs3 hX3
    by_cases hout : (1 + m) * r < k
    · go_wp2_with (first
        | (go_at_call_of 9 (Value.int IntKind.i64 d); refine (pick_is d 9 r _ l3 l4 (by omega) (by omega) HR.out).mono ?_; rintro e w' ⟨rfl, rfl⟩)
        | (go_at_call 16; refine (answered_ses (s := ⟨2, 5, 1 + m, 2, (k - 1) % (1 + m), 0, 0⟩) _ _ ⟨2, 5, 1 + m, 3, (k - 1) % (1 + m), 0, 0⟩ hs (by simp [answeredS, heardS, ByteArray.toList_eq])).mono ?_; rintro e w4 ⟨rfl, hs4, hg4⟩)
        | (go_at_call 12; refine (nothing_is _ _ _ true _ nothing_quiet).mono ?_; rintro e w5 ⟨rfl, hb5⟩; have hs5 := (hs4.alloc _).call hb5)
        | (go_at_call 13; refine (state_ses 3 hs5 rfl).mono ?_; rintro e w' ⟨rfl, rfl⟩)
        | (go_at_call 18; refine (ready_ses true hs5 rfl).mono ?_; rintro e w' ⟨rfl, rfl⟩))
      go_ret
      exact ⟨rfl, hs5.2.2.1⟩
    have hd1 : 0 < 1 + p := by omega
    rcases Bool.eq_false_or_eq_true (k % (1 + p) == 0) with hhit | hhit
    · rcases Bool.eq_false_or_eq_true (k % (1 + m) == 0) with hz | hz
      · have tok1 : True := trivial
        go_wp2_with (first
          | (go_at_call_of 9 (Value.int IntKind.i64 d); refine (pick_is d 9 r _ l3 l4 (by omega) (by omega) HR.out).mono ?_; rintro e w' ⟨rfl, rfl⟩; have tk := tok1; clear tok1)
          | (go_at_call_of 9 (Value.int IntKind.i64 e); refine (pick_is e 7 p _ l5 l6 (by omega) (by omega) HP.out).mono ?_; rintro e w' ⟨rfl, rfl⟩)
          | (go_at_call 16; refine (answered_ses (s := ⟨2, 5, 1 + m, 2, (k - 1) % (1 + m), 0, 0⟩) _ _ ⟨2, 5, 1 + m, 2, (k - 1) % (1 + m), 0, 0⟩ hs (HA _).out).mono ?_; rintro e w4 ⟨rfl, hs4, hg4⟩; have hX4 := hX.grown hg4 (by intro e; injection e; omega); have hl4 := hs4.lt; have hN4 := Blk.new w4 27 #[.string { data := #[] }, .string { data := #[] }, .bool false])
          | (go_at_call 14; refine (heard_ses (s := ⟨2, 5, 1 + m, 2, (k - 1) % (1 + m), 0, 0⟩) ⟨2, 5, 1 + m, 2, (k - 1) % (1 + m), 0, 0⟩ (hs4.alloc _) (by simp [heardS])).mono ?_; rintro e w5 ⟨rfl, hs5, hg5⟩; have hX5 := (hX4.alloc _).grown hg5 (by intro e; injection e; omega); have hN5 := hN4.grown hg5 (by intro e; injection e; omega))
          | (go_at_call 15; refine (asked_ses (s := ⟨2, 5, 1 + m, 2, (k - 1) % (1 + m), 0, 0⟩) _ ⟨2, 5, 1 + m, 2, (k - 1) % (1 + m), 0, 0⟩ _ _ _ hs5 (.inr rfl) (HK _).out (HY.out _)).mono ?_; rintro e w6 ⟨rfl, hs6, hg6⟩; have hX6 := hX5.grown hg6 (by intro e; injection e; omega); have hl6 := hs6.lt; have hN6 := hN5.grown hg6 (by intro e; injection e; omega); have hz6 := hN6.lt; have n0 := hN6.cell 0; have n1 := hN6.cell 1; have n2 := hN6.cell 2; simp at n0 n1 n2)
          | (go_at_call 12; have _t := hz6; refine (nothing_is _ _ _ true _ nothing_quiet).mono ?_; rintro e w7 ⟨rfl, hb7⟩; have hs7 := (hs6.alloc _).call hb7; have hX7 := (hX6.alloc _).below hb7 (by have := hX6.lt; simp; omega); have hM7 := (Blk.new w6 27 #[.string code, .string ka, .bool false]).below hb7 (by simp); have m0 := hM7.cell 0; have m1 := hM7.cell 1; have m2 := hM7.cell 2; simp at m0 m1 m2; clear n0 n1 n2 hz6)
          | (go_at_call 11; refine (tick_ses (s := ⟨2, 5, 1 + m, 2, (k - 1) % (1 + m), 0, 0⟩) ⟨2, 5, 1 + m, 2, k % (1 + m), 0, 0⟩ { data := #[48, 48, 49] } { data := #[] } false hs7 (wait_bd _ _ (by omega) (by omega)) (signs_tick0 (1 + m) k (by omega) (by simpa using hz)).1 (signs_tick0 (1 + m) k (by omega) (by simpa using hz)).2).mono ?_; rintro e w8 ⟨rfl, hs8, hg8⟩; have hX8 := Blk.grown hX7 hg8 (by intro e; injection e; omega); have t0 := hX8.cell 0; have t1 := hX8.cell 1; have t2 := hX8.cell 2; have g0 := hX8.frozen 0; have g1 := hX8.frozen 1; have g2 := hX8.frozen 2; simp at t0 t1 t2; have hl8 := hX8.lt)
          | (go_at_call 12; have _t := hl8; refine (nothing_is _ _ _ false _ nothing_001).mono ?_; rintro e w9 ⟨rfl, hb9⟩; have hs9 := (((hs8.far (g := gx) (i := 0) (by omega) hBx _).far (g := gx) (i := 1) (by omega) hBx _).far (g := gx) (i := 2) (by omega) hBx _).call hb9; have hX9 := (hX8.store3 _ _ _).below hb9 (by simp [World.setCell]; omega); have v0 := hX9.cell 0; have v1 := hX9.cell 1; have v2 := hX9.cell 2; simp at v0 v1 v2; clear hl8)
          | (go_at_call 17; refine (asks_is _ _ _ _ true _ asks_001).mono ?_; rintro e w10 ⟨rfl, hb10⟩; have hs10 := hs9.call hb10; have hX10 := hX9.below hb10 hX9.lt)
          | (go_at_call 13; refine (state_ses 2 hs10 rfl).mono ?_; rintro e w' ⟨rfl, rfl⟩)
          | (go_at_call 18; refine (ready_ses false hs10 rfl).mono ?_; rintro e w' ⟨rfl, rfl⟩))
        go_roundw
        case rel => exact ⟨k + 1, _, _, _, by omega, by omega, by go_num, by rw [Int.add_sub_cancel]; exact hs10, hX10⟩
        case measure => simp [intOf]; omega
      · have tok1 : True := trivial
        go_wp2_with (first
          | (go_at_call_of 9 (Value.int IntKind.i64 d); refine (pick_is d 9 r _ l3 l4 (by omega) (by omega) HR.out).mono ?_; rintro e w' ⟨rfl, rfl⟩; have tk := tok1; clear tok1)
          | (go_at_call_of 9 (Value.int IntKind.i64 e); refine (pick_is e 7 p _ l5 l6 (by omega) (by omega) HP.out).mono ?_; rintro e w' ⟨rfl, rfl⟩)
          | (go_at_call 16; refine (answered_ses (s := ⟨2, 5, 1 + m, 2, (k - 1) % (1 + m), 0, 0⟩) _ _ ⟨2, 5, 1 + m, 2, (k - 1) % (1 + m), 0, 0⟩ hs (HA _).out).mono ?_; rintro e w4 ⟨rfl, hs4, hg4⟩; have hX4 := hX.grown hg4 (by intro e; injection e; omega); have hl4 := hs4.lt; have hN4 := Blk.new w4 27 #[.string { data := #[] }, .string { data := #[] }, .bool false])
          | (go_at_call 14; refine (heard_ses (s := ⟨2, 5, 1 + m, 2, (k - 1) % (1 + m), 0, 0⟩) ⟨2, 5, 1 + m, 2, (k - 1) % (1 + m), 0, 0⟩ (hs4.alloc _) (by simp [heardS])).mono ?_; rintro e w5 ⟨rfl, hs5, hg5⟩; have hX5 := (hX4.alloc _).grown hg5 (by intro e; injection e; omega); have hN5 := hN4.grown hg5 (by intro e; injection e; omega))
          | (go_at_call 15; refine (asked_ses (s := ⟨2, 5, 1 + m, 2, (k - 1) % (1 + m), 0, 0⟩) _ ⟨2, 5, 1 + m, 2, (k - 1) % (1 + m), 0, 0⟩ _ _ _ hs5 (.inr rfl) (HK _).out (HY.out _)).mono ?_; rintro e w6 ⟨rfl, hs6, hg6⟩; have hX6 := hX5.grown hg6 (by intro e; injection e; omega); have hl6 := hs6.lt; have hN6 := hN5.grown hg6 (by intro e; injection e; omega); have hz6 := hN6.lt; have n0 := hN6.cell 0; have n1 := hN6.cell 1; have n2 := hN6.cell 2; simp at n0 n1 n2)
          | (go_at_call 12; have _t := hz6; refine (nothing_is _ _ _ true _ nothing_quiet).mono ?_; rintro e w7 ⟨rfl, hb7⟩; have hs7 := (hs6.alloc _).call hb7; have hX7 := (hX6.alloc _).below hb7 (by have := hX6.lt; simp; omega); have hM7 := (Blk.new w6 27 #[.string code, .string ka, .bool false]).below hb7 (by simp); have m0 := hM7.cell 0; have m1 := hM7.cell 1; have m2 := hM7.cell 2; simp at m0 m1 m2; clear n0 n1 n2 hz6)
          | (go_at_call 11; refine (tick_ses (s := ⟨2, 5, 1 + m, 2, (k - 1) % (1 + m), 0, 0⟩) ⟨2, 5, 1 + m, 2, k % (1 + m), 0, 0⟩ { data := #[] } { data := #[] } false hs7 (wait_bd _ _ (by omega) (by omega)) (signs_tick (1 + m) k (by omega) (by simpa using hz)).1 (signs_tick (1 + m) k (by omega) (by simpa using hz)).2).mono ?_; rintro e w8 ⟨rfl, hs8, hg8⟩; have hX8 := Blk.grown hX7 hg8 (by intro e; injection e; omega); have t0 := hX8.cell 0; have t1 := hX8.cell 1; have t2 := hX8.cell 2; have g0 := hX8.frozen 0; have g1 := hX8.frozen 1; have g2 := hX8.frozen 2; simp at t0 t1 t2; have hl8 := hX8.lt)
          | (go_at_call 12; have _t := hl8; refine (nothing_is _ _ _ true _ nothing_quiet).mono ?_; rintro e w9 ⟨rfl, hb9⟩; have hs9 := (((hs8.far (g := gx) (i := 0) (by omega) hBx _).far (g := gx) (i := 1) (by omega) hBx _).far (g := gx) (i := 2) (by omega) hBx _).call hb9; have hX9 := (hX8.store3 _ _ _).below hb9 (by simp [World.setCell]; omega); have v0 := hX9.cell 0; have v1 := hX9.cell 1; have v2 := hX9.cell 2; simp at v0 v1 v2; clear hl8)
          | (go_at_call 13; refine (state_ses 2 hs9 rfl).mono ?_; rintro e w' ⟨rfl, rfl⟩)
          | (go_at_call 18; refine (ready_ses false hs9 rfl).mono ?_; rintro e w' ⟨rfl, rfl⟩))
        go_roundw
        case rel => exact ⟨k + 1, _, _, _, by omega, by omega, by go_num, by rw [Int.add_sub_cancel]; exact hs9, hX9⟩
        case measure => simp [intOf]; omega
    · rcases Bool.eq_false_or_eq_true (k % (1 + m) == 0) with hz | hz
      · have tok1 : True := trivial
        go_wp2_with (first
          | (go_at_call_of 9 (Value.int IntKind.i64 d); refine (pick_is d 9 r _ l3 l4 (by omega) (by omega) HR.out).mono ?_; rintro e w' ⟨rfl, rfl⟩; have tk := tok1; clear tok1)
          | (go_at_call_of 9 (Value.int IntKind.i64 e); refine (pick_is e 7 p _ l5 l6 (by omega) (by omega) HP.out).mono ?_; rintro e w' ⟨rfl, rfl⟩)
          | (go_at_call 11; refine (tick_ses (s := ⟨2, 5, 1 + m, 2, (k - 1) % (1 + m), 0, 0⟩) ⟨2, 5, 1 + m, 2, k % (1 + m), 0, 0⟩ { data := #[48, 48, 49] } { data := #[] } false hs (wait_bd _ _ (by omega) (by omega)) (signs_tick0 (1 + m) k (by omega) (by simpa using hz)).1 (signs_tick0 (1 + m) k (by omega) (by simpa using hz)).2).mono ?_; rintro e w8 ⟨rfl, hs8, hg8⟩; have hX8 := Blk.grown hX hg8 (by intro e; injection e; omega); have t0 := hX8.cell 0; have t1 := hX8.cell 1; have t2 := hX8.cell 2; have g0 := hX8.frozen 0; have g1 := hX8.frozen 1; have g2 := hX8.frozen 2; simp at t0 t1 t2; have hl8 := hX8.lt)
          | (go_at_call 12; have _t := hl8; refine (nothing_is _ _ _ false _ nothing_001).mono ?_; rintro e w9 ⟨rfl, hb9⟩; have hs9 := (((hs8.far (g := gx) (i := 0) (by omega) hBx _).far (g := gx) (i := 1) (by omega) hBx _).far (g := gx) (i := 2) (by omega) hBx _).call hb9; have hX9 := (hX8.store3 _ _ _).below hb9 (by simp [World.setCell]; omega); have v0 := hX9.cell 0; have v1 := hX9.cell 1; have v2 := hX9.cell 2; simp at v0 v1 v2; clear hl8)
          | (go_at_call 17; refine (asks_is _ _ _ _ true _ asks_001).mono ?_; rintro e w10 ⟨rfl, hb10⟩; have hs10 := hs9.call hb10; have hX10 := hX9.below hb10 hX9.lt)
          | (go_at_call 13; refine (state_ses 2 hs10 rfl).mono ?_; rintro e w' ⟨rfl, rfl⟩)
          | (go_at_call 18; refine (ready_ses false hs10 rfl).mono ?_; rintro e w' ⟨rfl, rfl⟩))
        go_roundw
        case rel => exact ⟨k + 1, _, _, _, by omega, by omega, by go_num, by rw [Int.add_sub_cancel]; exact hs10, hX10⟩
        case measure => simp [intOf]; omega
      · have tok1 : True := trivial
        go_wp2_with (first
          | (go_at_call_of 9 (Value.int IntKind.i64 d); refine (pick_is d 9 r _ l3 l4 (by omega) (by omega) HR.out).mono ?_; rintro e w' ⟨rfl, rfl⟩; have tk := tok1; clear tok1)
          | (go_at_call_of 9 (Value.int IntKind.i64 e); refine (pick_is e 7 p _ l5 l6 (by omega) (by omega) HP.out).mono ?_; rintro e w' ⟨rfl, rfl⟩)
          | (go_at_call 11; refine (tick_ses (s := ⟨2, 5, 1 + m, 2, (k - 1) % (1 + m), 0, 0⟩) ⟨2, 5, 1 + m, 2, k % (1 + m), 0, 0⟩ { data := #[] } { data := #[] } false hs (wait_bd _ _ (by omega) (by omega)) (signs_tick (1 + m) k (by omega) (by simpa using hz)).1 (signs_tick (1 + m) k (by omega) (by simpa using hz)).2).mono ?_; rintro e w8 ⟨rfl, hs8, hg8⟩; have hX8 := Blk.grown hX hg8 (by intro e; injection e; omega); have t0 := hX8.cell 0; have t1 := hX8.cell 1; have t2 := hX8.cell 2; have g0 := hX8.frozen 0; have g1 := hX8.frozen 1; have g2 := hX8.frozen 2; simp at t0 t1 t2; have hl8 := hX8.lt)
          | (go_at_call 12; have _t := hl8; refine (nothing_is _ _ _ true _ nothing_quiet).mono ?_; rintro e w9 ⟨rfl, hb9⟩; have hs9 := (((hs8.far (g := gx) (i := 0) (by omega) hBx _).far (g := gx) (i := 1) (by omega) hBx _).far (g := gx) (i := 2) (by omega) hBx _).call hb9; have hX9 := (hX8.store3 _ _ _).below hb9 (by simp [World.setCell]; omega); have v0 := hX9.cell 0; have v1 := hX9.cell 1; have v2 := hX9.cell 2; simp at v0 v1 v2; clear hl8)
          | (go_at_call 13; refine (state_ses 2 hs9 rfl).mono ?_; rintro e w' ⟨rfl, rfl⟩)
          | (go_at_call 18; refine (ready_ses false hs9 rfl).mono ?_; rintro e w' ⟨rfl, rfl⟩))
        go_roundw
        case rel => exact ⟨k + 1, _, _, _, by omega, by omega, by go_num, by rw [Int.add_sub_cancel]; exact hs9, hX9⟩
        case measure => simp [intOf]; omega

set_option maxRecDepth 100000 in
set_option maxHeartbeats 3200000 in
theorem signs_b (c d e : Int) (code other : ByteArray) (m r p : Int) (w : World) (l1 : -9223372036854775808 ≤ c) (l2 : c ≤ 9223372036854775807) (l3 : -9223372036854775808 ≤ d) (l4 : d ≤ 9223372036854775807) (l5 : -9223372036854775808 ≤ e) (l6 : e ≤ 9223372036854775807)
    (hm : pickP c 200 = m) (hr : pickP d 9 = r) (hp : pickP e 7 = p) (hm0 : 0 ≤ m) (hm1 : m < 200) (hr0 : 0 ≤ r) (hr1 : r < 9) (hp0 : 0 ≤ p) (hp1 : p < 7) (hc : (code.toList == [48, 48, 49]) = true) (ho : (other.toList == [48, 48]) = false)
    (hd : (code.toList == [48, 48, 50]) = false) :
    Calls Try.prog 5 #[.int .i64 c, .int .i64 d, .string code, .string other, .int .i64 e] w fun e w' => e = .returned (.bool true) ∧ Below w.heap.size w w' := by
  have HM := Lib.hid hm
  have HR := Lib.hid hr
  have HP := Lib.hid hp
  have q0 : 0 ≤ (1 + m) * r := Int.mul_nonneg (by omega) (by omega)
  have q1 : (1 + m) * r ≤ 1800 := by
    have a := Int.mul_le_mul_of_nonneg_left (show r ≤ 9 by omega) (show 0 ≤ 1 + m by omega)
    omega
  have HA : ∀ x : Int, Hid (answeredS ⟨2, 5, 1 + m, 2, x, 0, 0⟩ code.toList (ByteArray.toList other) = ⟨2, 5, 1 + m, 2, x, 0, 0⟩) := by
    intro x
    show _ = _
    have ho' : ¬ other.toList = [48, 48] := by simpa using ho
    simp [answeredS, heardS, ho']
  have HK : ∀ x : Int, Hid (askedS ⟨2, 5, 1 + m, 2, x, 0, 0⟩ (ByteArray.toList code) = ⟨2, 5, 1 + m, 2, x, 0, 0⟩) := by
    intro x
    show _ = _
    have hd' : ¬ code.toList = [48, 48, 50] := by simpa using hd
    simp [askedS, heardS, hd']
  obtain ⟨ka, HY, HZ⟩ : ∃ ka : ByteArray, Hid (∀ x : Int, askedY ⟨2, 5, 1 + m, 2, x, 0, 0⟩ code = ⟨code, ka, false⟩) ∧ ka.toList.isEmpty = false := by
    refine ⟨askedA ⟨2, 5, 1 + m, 2, 0, 0, 0⟩ (ByteArray.toList code), ?_, ?_⟩
    · show ∀ x : Int, _
      intro x
      simp [askedY, askedA]
    · unfold askedA; split <;> simp [c00, c12, ByteArray.toList_eq]
  clear hm hr hp
  go_enter Try.func5, Try.ntmps5
  go_wp2_with (first
    | (go_at_call_of 9 (Value.int IntKind.i64 c); refine (pick_is c 200 m _ l1 l2 (by omega) (by omega) HM.out).mono ?_; rintro e w' ⟨rfl, rfl⟩)
    | (go_at_call 19; refine (new_ses (B := w.heap.size) (w0 := w) 2 5 (1 + m) _ (Nat.le_refl _) (Below.refl _ _) (.inr rfl) (by omega) (by omega) (by omega) (by omega)).mono ?_; rintro e w1 ⟨b, hbe, rfl, hs1, hb1⟩; have HB := Lib.hid hbe; clear hbe)
    | (go_at_call 20; refine (up_ses (s := ⟨2, 5, 1 + m, 0, 0, 0, 0⟩) ⟨2, 5, 1 + m, 2, 0, 0, 0⟩ { data := #[48, 48, 49] } { data := #[] } false hs1 (.inr rfl) rfl rfl).mono ?_; rintro e w2 ⟨rfl, hs2, hg2⟩)
    | (go_at_call 17; refine (asks_is _ _ _ _ true _ asks_001).mono ?_; rintro e w3 ⟨rfl, hb3⟩; have hs3 := (hs2.alloc _).call hb3; have hX3 : Blk w3 w2.heap.size 27 #[.string { data := #[48, 48, 49] }, .string { data := #[] }, .bool false] := (Blk.new w2 27 _).below hb3 (by simp); have hne3 : b < w2.heap.size := hs2.lt))
  obtain ⟨gx, hgx⟩ : ∃ gx, gx = w2.heap.size := ⟨_, rfl⟩
  rw [← hgx] at hX3 hne3
  rw [← hgx]
  have HGX := Lib.hid hgx
  have hBx : w.heap.size ≤ gx := by have := hs1.2.1; omega
  clear hgx hb3 hg2 hs2 hs1 hb1 HB
  go_loopw [17] (fun i wr => ∃ (k : Int) (x0 x1 : ByteArray) (x2 : Bool), 1 ≤ k ∧ k ≤ (1 + m) * r + 1 ∧ i = .int .i64 k ∧ Ses w.heap.size w b ⟨2, 5, 1 + m, 2, (k - 1) % (1 + m), 0, 0⟩ wr ∧ Blk wr gx 27 #[.string x0, .string x1, .bool x2]) (fun i _ => ((1 + m) * r + 1 - intOf i).toNat)
  case atStart => exact ⟨1, _, _, _, by omega, by omega, rfl, by simpa using hs3, hX3⟩
  case round =>
    obtain ⟨k, x0, x1, x2, hk0, hk1, rfl, hs, hX⟩ := hrel
    clear hs3 hX3
    by_cases hout : (1 + m) * r < k
    · go_wp2_with (first
        | (go_at_call_of 9 (Value.int IntKind.i64 d); refine (pick_is d 9 r _ l3 l4 (by omega) (by omega) HR.out).mono ?_; rintro e w' ⟨rfl, rfl⟩)
        | (go_at_call 16; refine (answered_ses (s := ⟨2, 5, 1 + m, 2, (k - 1) % (1 + m), 0, 0⟩) _ _ ⟨2, 5, 1 + m, 3, (k - 1) % (1 + m), 0, 0⟩ hs (by simp [answeredS, heardS, ByteArray.toList_eq])).mono ?_; rintro e w4 ⟨rfl, hs4, hg4⟩)
        | (go_at_call 12; refine (nothing_is _ _ _ true _ nothing_quiet).mono ?_; rintro e w5 ⟨rfl, hb5⟩; have hs5 := (hs4.alloc _).call hb5)
        | (go_at_call 13; refine (state_ses 3 hs5 rfl).mono ?_; rintro e w' ⟨rfl, rfl⟩)
        | (go_at_call 18; refine (ready_ses true hs5 rfl).mono ?_; rintro e w' ⟨rfl, rfl⟩))
      go_ret
      exact ⟨rfl, hs5.2.2.1⟩
    have hd1 : 0 < 1 + p := by omega
    rcases Bool.eq_false_or_eq_true (k % (1 + p) == 0) with hhit | hhit
    · rcases Bool.eq_false_or_eq_true (k % (1 + m) == 0) with hz | hz
      · have tok1 : True := trivial
        go_wp2_with (first
          | (go_at_call_of 9 (Value.int IntKind.i64 d); refine (pick_is d 9 r _ l3 l4 (by omega) (by omega) HR.out).mono ?_; rintro e w' ⟨rfl, rfl⟩; have tk := tok1; clear tok1)
          | (go_at_call_of 9 (Value.int IntKind.i64 e); refine (pick_is e 7 p _ l5 l6 (by omega) (by omega) HP.out).mono ?_; rintro e w' ⟨rfl, rfl⟩)
          | (go_at_call 16; refine (answered_ses (s := ⟨2, 5, 1 + m, 2, (k - 1) % (1 + m), 0, 0⟩) _ _ ⟨2, 5, 1 + m, 2, (k - 1) % (1 + m), 0, 0⟩ hs (HA _).out).mono ?_; rintro e w4 ⟨rfl, hs4, hg4⟩; have hX4 := hX.grown hg4 (by intro e; injection e; omega); have hl4 := hs4.lt; have hN4 := Blk.new w4 27 #[.string { data := #[] }, .string { data := #[] }, .bool false])
          | (go_at_call 14; refine (heard_ses (s := ⟨2, 5, 1 + m, 2, (k - 1) % (1 + m), 0, 0⟩) ⟨2, 5, 1 + m, 2, (k - 1) % (1 + m), 0, 0⟩ (hs4.alloc _) (by simp [heardS])).mono ?_; rintro e w5 ⟨rfl, hs5, hg5⟩; have hX5 := (hX4.alloc _).grown hg5 (by intro e; injection e; omega); have hN5 := hN4.grown hg5 (by intro e; injection e; omega))
          | (go_at_call 15; refine (asked_ses (s := ⟨2, 5, 1 + m, 2, (k - 1) % (1 + m), 0, 0⟩) _ ⟨2, 5, 1 + m, 2, (k - 1) % (1 + m), 0, 0⟩ _ _ _ hs5 (.inr rfl) (HK _).out (HY.out _)).mono ?_; rintro e w6 ⟨rfl, hs6, hg6⟩; have hX6 := hX5.grown hg6 (by intro e; injection e; omega); have hl6 := hs6.lt; have hN6 := hN5.grown hg6 (by intro e; injection e; omega); have hz6 := hN6.lt; have n0 := hN6.cell 0; have n1 := hN6.cell 1; have n2 := hN6.cell 2; simp at n0 n1 n2)
          | (go_at_call 12; have _t := hz6; refine (nothing_is _ _ _ true _ nothing_quiet).mono ?_; rintro e w7 ⟨rfl, hb7⟩; have hs7 := (hs6.alloc _).call hb7; have hX7 := (hX6.alloc _).below hb7 (by have := hX6.lt; simp; omega); have hM7 := (Blk.new w6 27 #[.string code, .string ka, .bool false]).below hb7 (by simp); have m0 := hM7.cell 0; have m1 := hM7.cell 1; have m2 := hM7.cell 2; simp at m0 m1 m2; clear n0 n1 n2 hz6)
          | (go_at_call 11; refine (tick_ses (s := ⟨2, 5, 1 + m, 2, (k - 1) % (1 + m), 0, 0⟩) ⟨2, 5, 1 + m, 2, k % (1 + m), 0, 0⟩ { data := #[48, 48, 49] } { data := #[] } false hs7 (wait_bd _ _ (by omega) (by omega)) (signs_tick0 (1 + m) k (by omega) (by simpa using hz)).1 (signs_tick0 (1 + m) k (by omega) (by simpa using hz)).2).mono ?_; rintro e w8 ⟨rfl, hs8, hg8⟩; have hX8 := Blk.grown hX7 hg8 (by intro e; injection e; omega); have t0 := hX8.cell 0; have t1 := hX8.cell 1; have t2 := hX8.cell 2; have g0 := hX8.frozen 0; have g1 := hX8.frozen 1; have g2 := hX8.frozen 2; simp at t0 t1 t2; have hl8 := hX8.lt)
          | (go_at_call 12; have _t := hl8; refine (nothing_is _ _ _ false _ nothing_001).mono ?_; rintro e w9 ⟨rfl, hb9⟩; have hs9 := (((hs8.far (g := gx) (i := 0) (by omega) hBx _).far (g := gx) (i := 1) (by omega) hBx _).far (g := gx) (i := 2) (by omega) hBx _).call hb9; have hX9 := (hX8.store3 _ _ _).below hb9 (by simp [World.setCell]; omega); have v0 := hX9.cell 0; have v1 := hX9.cell 1; have v2 := hX9.cell 2; simp at v0 v1 v2; clear hl8)
          | (go_at_call 17; refine (asks_is _ _ _ _ true _ asks_001).mono ?_; rintro e w10 ⟨rfl, hb10⟩; have hs10 := hs9.call hb10; have hX10 := hX9.below hb10 hX9.lt)
          | (go_at_call 13; refine (state_ses 2 hs10 rfl).mono ?_; rintro e w' ⟨rfl, rfl⟩)
          | (go_at_call 18; refine (ready_ses false hs10 rfl).mono ?_; rintro e w' ⟨rfl, rfl⟩))
        go_roundw
        case rel => exact ⟨k + 1, _, _, _, by omega, by omega, by go_num, by rw [Int.add_sub_cancel]; exact hs10, hX10⟩
        case measure => simp [intOf]; omega
      · have tok1 : True := trivial
        go_wp2_with (first
          | (go_at_call_of 9 (Value.int IntKind.i64 d); refine (pick_is d 9 r _ l3 l4 (by omega) (by omega) HR.out).mono ?_; rintro e w' ⟨rfl, rfl⟩; have tk := tok1; clear tok1)
          | (go_at_call_of 9 (Value.int IntKind.i64 e); refine (pick_is e 7 p _ l5 l6 (by omega) (by omega) HP.out).mono ?_; rintro e w' ⟨rfl, rfl⟩)
          | (go_at_call 16; refine (answered_ses (s := ⟨2, 5, 1 + m, 2, (k - 1) % (1 + m), 0, 0⟩) _ _ ⟨2, 5, 1 + m, 2, (k - 1) % (1 + m), 0, 0⟩ hs (HA _).out).mono ?_; rintro e w4 ⟨rfl, hs4, hg4⟩; have hX4 := hX.grown hg4 (by intro e; injection e; omega); have hl4 := hs4.lt; have hN4 := Blk.new w4 27 #[.string { data := #[] }, .string { data := #[] }, .bool false])
          | (go_at_call 14; refine (heard_ses (s := ⟨2, 5, 1 + m, 2, (k - 1) % (1 + m), 0, 0⟩) ⟨2, 5, 1 + m, 2, (k - 1) % (1 + m), 0, 0⟩ (hs4.alloc _) (by simp [heardS])).mono ?_; rintro e w5 ⟨rfl, hs5, hg5⟩; have hX5 := (hX4.alloc _).grown hg5 (by intro e; injection e; omega); have hN5 := hN4.grown hg5 (by intro e; injection e; omega))
          | (go_at_call 15; refine (asked_ses (s := ⟨2, 5, 1 + m, 2, (k - 1) % (1 + m), 0, 0⟩) _ ⟨2, 5, 1 + m, 2, (k - 1) % (1 + m), 0, 0⟩ _ _ _ hs5 (.inr rfl) (HK _).out (HY.out _)).mono ?_; rintro e w6 ⟨rfl, hs6, hg6⟩; have hX6 := hX5.grown hg6 (by intro e; injection e; omega); have hl6 := hs6.lt; have hN6 := hN5.grown hg6 (by intro e; injection e; omega); have hz6 := hN6.lt; have n0 := hN6.cell 0; have n1 := hN6.cell 1; have n2 := hN6.cell 2; simp at n0 n1 n2)
          | (go_at_call 12; have _t := hz6; refine (nothing_is _ _ _ true _ nothing_quiet).mono ?_; rintro e w7 ⟨rfl, hb7⟩; have hs7 := (hs6.alloc _).call hb7; have hX7 := (hX6.alloc _).below hb7 (by have := hX6.lt; simp; omega); have hM7 := (Blk.new w6 27 #[.string code, .string ka, .bool false]).below hb7 (by simp); have m0 := hM7.cell 0; have m1 := hM7.cell 1; have m2 := hM7.cell 2; simp at m0 m1 m2; clear n0 n1 n2 hz6)
          | (go_at_call 11; refine (tick_ses (s := ⟨2, 5, 1 + m, 2, (k - 1) % (1 + m), 0, 0⟩) ⟨2, 5, 1 + m, 2, k % (1 + m), 0, 0⟩ { data := #[] } { data := #[] } false hs7 (wait_bd _ _ (by omega) (by omega)) (signs_tick (1 + m) k (by omega) (by simpa using hz)).1 (signs_tick (1 + m) k (by omega) (by simpa using hz)).2).mono ?_; rintro e w8 ⟨rfl, hs8, hg8⟩; have hX8 := Blk.grown hX7 hg8 (by intro e; injection e; omega); have t0 := hX8.cell 0; have t1 := hX8.cell 1; have t2 := hX8.cell 2; have g0 := hX8.frozen 0; have g1 := hX8.frozen 1; have g2 := hX8.frozen 2; simp at t0 t1 t2; have hl8 := hX8.lt)
          | (go_at_call 12; have _t := hl8; refine (nothing_is _ _ _ true _ nothing_quiet).mono ?_; rintro e w9 ⟨rfl, hb9⟩; have hs9 := (((hs8.far (g := gx) (i := 0) (by omega) hBx _).far (g := gx) (i := 1) (by omega) hBx _).far (g := gx) (i := 2) (by omega) hBx _).call hb9; have hX9 := (hX8.store3 _ _ _).below hb9 (by simp [World.setCell]; omega); have v0 := hX9.cell 0; have v1 := hX9.cell 1; have v2 := hX9.cell 2; simp at v0 v1 v2; clear hl8)
          | (go_at_call 13; refine (state_ses 2 hs9 rfl).mono ?_; rintro e w' ⟨rfl, rfl⟩)
          | (go_at_call 18; refine (ready_ses false hs9 rfl).mono ?_; rintro e w' ⟨rfl, rfl⟩))
        go_roundw
        case rel => exact ⟨k + 1, _, _, _, by omega, by omega, by go_num, by rw [Int.add_sub_cancel]; exact hs9, hX9⟩
        case measure => simp [intOf]; omega
    · rcases Bool.eq_false_or_eq_true (k % (1 + m) == 0) with hz | hz
      · have tok1 : True := trivial
        go_wp2_with (first
          | (go_at_call_of 9 (Value.int IntKind.i64 d); refine (pick_is d 9 r _ l3 l4 (by omega) (by omega) HR.out).mono ?_; rintro e w' ⟨rfl, rfl⟩; have tk := tok1; clear tok1)
          | (go_at_call_of 9 (Value.int IntKind.i64 e); refine (pick_is e 7 p _ l5 l6 (by omega) (by omega) HP.out).mono ?_; rintro e w' ⟨rfl, rfl⟩)
          | (go_at_call 11; refine (tick_ses (s := ⟨2, 5, 1 + m, 2, (k - 1) % (1 + m), 0, 0⟩) ⟨2, 5, 1 + m, 2, k % (1 + m), 0, 0⟩ { data := #[48, 48, 49] } { data := #[] } false hs (wait_bd _ _ (by omega) (by omega)) (signs_tick0 (1 + m) k (by omega) (by simpa using hz)).1 (signs_tick0 (1 + m) k (by omega) (by simpa using hz)).2).mono ?_; rintro e w8 ⟨rfl, hs8, hg8⟩; have hX8 := Blk.grown hX hg8 (by intro e; injection e; omega); have t0 := hX8.cell 0; have t1 := hX8.cell 1; have t2 := hX8.cell 2; have g0 := hX8.frozen 0; have g1 := hX8.frozen 1; have g2 := hX8.frozen 2; simp at t0 t1 t2; have hl8 := hX8.lt)
          | (go_at_call 12; have _t := hl8; refine (nothing_is _ _ _ false _ nothing_001).mono ?_; rintro e w9 ⟨rfl, hb9⟩; have hs9 := (((hs8.far (g := gx) (i := 0) (by omega) hBx _).far (g := gx) (i := 1) (by omega) hBx _).far (g := gx) (i := 2) (by omega) hBx _).call hb9; have hX9 := (hX8.store3 _ _ _).below hb9 (by simp [World.setCell]; omega); have v0 := hX9.cell 0; have v1 := hX9.cell 1; have v2 := hX9.cell 2; simp at v0 v1 v2; clear hl8)
          | (go_at_call 17; refine (asks_is _ _ _ _ true _ asks_001).mono ?_; rintro e w10 ⟨rfl, hb10⟩; have hs10 := hs9.call hb10; have hX10 := hX9.below hb10 hX9.lt)
          | (go_at_call 13; refine (state_ses 2 hs10 rfl).mono ?_; rintro e w' ⟨rfl, rfl⟩)
          | (go_at_call 18; refine (ready_ses false hs10 rfl).mono ?_; rintro e w' ⟨rfl, rfl⟩))
        go_roundw
        case rel => exact ⟨k + 1, _, _, _, by omega, by omega, by go_num, by rw [Int.add_sub_cancel]; exact hs10, hX10⟩
        case measure => simp [intOf]; omega
      · have tok1 : True := trivial
        go_wp2_with (first
          | (go_at_call_of 9 (Value.int IntKind.i64 d); refine (pick_is d 9 r _ l3 l4 (by omega) (by omega) HR.out).mono ?_; rintro e w' ⟨rfl, rfl⟩; have tk := tok1; clear tok1)
          | (go_at_call_of 9 (Value.int IntKind.i64 e); refine (pick_is e 7 p _ l5 l6 (by omega) (by omega) HP.out).mono ?_; rintro e w' ⟨rfl, rfl⟩)
          | (go_at_call 11; refine (tick_ses (s := ⟨2, 5, 1 + m, 2, (k - 1) % (1 + m), 0, 0⟩) ⟨2, 5, 1 + m, 2, k % (1 + m), 0, 0⟩ { data := #[] } { data := #[] } false hs (wait_bd _ _ (by omega) (by omega)) (signs_tick (1 + m) k (by omega) (by simpa using hz)).1 (signs_tick (1 + m) k (by omega) (by simpa using hz)).2).mono ?_; rintro e w8 ⟨rfl, hs8, hg8⟩; have hX8 := Blk.grown hX hg8 (by intro e; injection e; omega); have t0 := hX8.cell 0; have t1 := hX8.cell 1; have t2 := hX8.cell 2; have g0 := hX8.frozen 0; have g1 := hX8.frozen 1; have g2 := hX8.frozen 2; simp at t0 t1 t2; have hl8 := hX8.lt)
          | (go_at_call 12; have _t := hl8; refine (nothing_is _ _ _ true _ nothing_quiet).mono ?_; rintro e w9 ⟨rfl, hb9⟩; have hs9 := (((hs8.far (g := gx) (i := 0) (by omega) hBx _).far (g := gx) (i := 1) (by omega) hBx _).far (g := gx) (i := 2) (by omega) hBx _).call hb9; have hX9 := (hX8.store3 _ _ _).below hb9 (by simp [World.setCell]; omega); have v0 := hX9.cell 0; have v1 := hX9.cell 1; have v2 := hX9.cell 2; simp at v0 v1 v2; clear hl8)
          | (go_at_call 13; refine (state_ses 2 hs9 rfl).mono ?_; rintro e w' ⟨rfl, rfl⟩)
          | (go_at_call 18; refine (ready_ses false hs9 rfl).mono ?_; rintro e w' ⟨rfl, rfl⟩))
        go_roundw
        case rel => exact ⟨k + 1, _, _, _, by omega, by omega, by go_num, by rw [Int.add_sub_cancel]; exact hs9, hX9⟩
        case measure => simp [intOf]; omega

set_option maxRecDepth 100000 in
set_option maxHeartbeats 3200000 in
theorem signs_c (c d e : Int) (code other : ByteArray) (m r p : Int) (w : World) (l1 : -9223372036854775808 ≤ c) (l2 : c ≤ 9223372036854775807) (l3 : -9223372036854775808 ≤ d) (l4 : d ≤ 9223372036854775807) (l5 : -9223372036854775808 ≤ e) (l6 : e ≤ 9223372036854775807)
    (hm : pickP c 200 = m) (hr : pickP d 9 = r) (hp : pickP e 7 = p) (hm0 : 0 ≤ m) (hm1 : m < 200) (hr0 : 0 ≤ r) (hr1 : r < 9) (hp0 : 0 ≤ p) (hp1 : p < 7) (hc : (code.toList == [48, 48, 49]) = false)
    (hd : (code.toList == [48, 48, 50]) = false) :
    Calls Try.prog 5 #[.int .i64 c, .int .i64 d, .string code, .string other, .int .i64 e] w fun e w' => e = .returned (.bool true) ∧ Below w.heap.size w w' := by
  have HM := Lib.hid hm
  have HR := Lib.hid hr
  have HP := Lib.hid hp
  have q0 : 0 ≤ (1 + m) * r := Int.mul_nonneg (by omega) (by omega)
  have q1 : (1 + m) * r ≤ 1800 := by
    have a := Int.mul_le_mul_of_nonneg_left (show r ≤ 9 by omega) (show 0 ≤ 1 + m by omega)
    omega
  have HA : ∀ x : Int, Hid (answeredS ⟨2, 5, 1 + m, 2, x, 0, 0⟩ code.toList (ByteArray.toList other) = ⟨2, 5, 1 + m, 2, x, 0, 0⟩) := by
    intro x
    show _ = _
    have hc' : ¬ code.toList = [48, 48, 49] := by simpa using hc
    simp [answeredS, heardS, hc']
  have HK : ∀ x : Int, Hid (askedS ⟨2, 5, 1 + m, 2, x, 0, 0⟩ (ByteArray.toList code) = ⟨2, 5, 1 + m, 2, x, 0, 0⟩) := by
    intro x
    show _ = _
    have hd' : ¬ code.toList = [48, 48, 50] := by simpa using hd
    simp [askedS, heardS, hd']
  obtain ⟨ka, HY, HZ⟩ : ∃ ka : ByteArray, Hid (∀ x : Int, askedY ⟨2, 5, 1 + m, 2, x, 0, 0⟩ code = ⟨code, ka, false⟩) ∧ ka.toList.isEmpty = false := by
    refine ⟨askedA ⟨2, 5, 1 + m, 2, 0, 0, 0⟩ (ByteArray.toList code), ?_, ?_⟩
    · show ∀ x : Int, _
      intro x
      simp [askedY, askedA]
    · unfold askedA; split <;> simp [c00, c12, ByteArray.toList_eq]
  clear hm hr hp
  go_enter Try.func5, Try.ntmps5
  go_wp2_with (first
    | (go_at_call_of 9 (Value.int IntKind.i64 c); refine (pick_is c 200 m _ l1 l2 (by omega) (by omega) HM.out).mono ?_; rintro e w' ⟨rfl, rfl⟩)
    | (go_at_call 19; refine (new_ses (B := w.heap.size) (w0 := w) 2 5 (1 + m) _ (Nat.le_refl _) (Below.refl _ _) (.inr rfl) (by omega) (by omega) (by omega) (by omega)).mono ?_; rintro e w1 ⟨b, hbe, rfl, hs1, hb1⟩; have HB := Lib.hid hbe; clear hbe)
    | (go_at_call 20; refine (up_ses (s := ⟨2, 5, 1 + m, 0, 0, 0, 0⟩) ⟨2, 5, 1 + m, 2, 0, 0, 0⟩ { data := #[48, 48, 49] } { data := #[] } false hs1 (.inr rfl) rfl rfl).mono ?_; rintro e w2 ⟨rfl, hs2, hg2⟩)
    | (go_at_call 17; refine (asks_is _ _ _ _ true _ asks_001).mono ?_; rintro e w3 ⟨rfl, hb3⟩; have hs3 := (hs2.alloc _).call hb3; have hX3 : Blk w3 w2.heap.size 27 #[.string { data := #[48, 48, 49] }, .string { data := #[] }, .bool false] := (Blk.new w2 27 _).below hb3 (by simp); have hne3 : b < w2.heap.size := hs2.lt))
  obtain ⟨gx, hgx⟩ : ∃ gx, gx = w2.heap.size := ⟨_, rfl⟩
  rw [← hgx] at hX3 hne3
  rw [← hgx]
  have HGX := Lib.hid hgx
  have hBx : w.heap.size ≤ gx := by have := hs1.2.1; omega
  clear hgx hb3 hg2 hs2 hs1 hb1 HB
  go_loopw [17] (fun i wr => ∃ (k : Int) (x0 x1 : ByteArray) (x2 : Bool), 1 ≤ k ∧ k ≤ (1 + m) * r + 1 ∧ i = .int .i64 k ∧ Ses w.heap.size w b ⟨2, 5, 1 + m, 2, (k - 1) % (1 + m), 0, 0⟩ wr ∧ Blk wr gx 27 #[.string x0, .string x1, .bool x2]) (fun i _ => ((1 + m) * r + 1 - intOf i).toNat)
  case atStart => exact ⟨1, _, _, _, by omega, by omega, rfl, by simpa using hs3, hX3⟩
  case round =>
    obtain ⟨k, x0, x1, x2, hk0, hk1, rfl, hs, hX⟩ := hrel
    clear hs3 hX3
    by_cases hout : (1 + m) * r < k
    · go_wp2_with (first
        | (go_at_call_of 9 (Value.int IntKind.i64 d); refine (pick_is d 9 r _ l3 l4 (by omega) (by omega) HR.out).mono ?_; rintro e w' ⟨rfl, rfl⟩)
        | (go_at_call 16; refine (answered_ses (s := ⟨2, 5, 1 + m, 2, (k - 1) % (1 + m), 0, 0⟩) _ _ ⟨2, 5, 1 + m, 3, (k - 1) % (1 + m), 0, 0⟩ hs (by simp [answeredS, heardS, ByteArray.toList_eq])).mono ?_; rintro e w4 ⟨rfl, hs4, hg4⟩)
        | (go_at_call 12; refine (nothing_is _ _ _ true _ nothing_quiet).mono ?_; rintro e w5 ⟨rfl, hb5⟩; have hs5 := (hs4.alloc _).call hb5)
        | (go_at_call 13; refine (state_ses 3 hs5 rfl).mono ?_; rintro e w' ⟨rfl, rfl⟩)
        | (go_at_call 18; refine (ready_ses true hs5 rfl).mono ?_; rintro e w' ⟨rfl, rfl⟩))
      go_ret
      exact ⟨rfl, hs5.2.2.1⟩
    have hd1 : 0 < 1 + p := by omega
    rcases Bool.eq_false_or_eq_true (k % (1 + p) == 0) with hhit | hhit
    · rcases Bool.eq_false_or_eq_true (k % (1 + m) == 0) with hz | hz
      · have tok1 : True := trivial
        go_wp2_with (first
          | (go_at_call_of 9 (Value.int IntKind.i64 d); refine (pick_is d 9 r _ l3 l4 (by omega) (by omega) HR.out).mono ?_; rintro e w' ⟨rfl, rfl⟩; have tk := tok1; clear tok1)
          | (go_at_call_of 9 (Value.int IntKind.i64 e); refine (pick_is e 7 p _ l5 l6 (by omega) (by omega) HP.out).mono ?_; rintro e w' ⟨rfl, rfl⟩)
          | (go_at_call 16; refine (answered_ses (s := ⟨2, 5, 1 + m, 2, (k - 1) % (1 + m), 0, 0⟩) _ _ ⟨2, 5, 1 + m, 2, (k - 1) % (1 + m), 0, 0⟩ hs (HA _).out).mono ?_; rintro e w4 ⟨rfl, hs4, hg4⟩; have hX4 := hX.grown hg4 (by intro e; injection e; omega); have hl4 := hs4.lt; have hN4 := Blk.new w4 27 #[.string { data := #[] }, .string { data := #[] }, .bool false])
          | (go_at_call 14; refine (heard_ses (s := ⟨2, 5, 1 + m, 2, (k - 1) % (1 + m), 0, 0⟩) ⟨2, 5, 1 + m, 2, (k - 1) % (1 + m), 0, 0⟩ (hs4.alloc _) (by simp [heardS])).mono ?_; rintro e w5 ⟨rfl, hs5, hg5⟩; have hX5 := (hX4.alloc _).grown hg5 (by intro e; injection e; omega); have hN5 := hN4.grown hg5 (by intro e; injection e; omega))
          | (go_at_call 15; refine (asked_ses (s := ⟨2, 5, 1 + m, 2, (k - 1) % (1 + m), 0, 0⟩) _ ⟨2, 5, 1 + m, 2, (k - 1) % (1 + m), 0, 0⟩ _ _ _ hs5 (.inr rfl) (HK _).out (HY.out _)).mono ?_; rintro e w6 ⟨rfl, hs6, hg6⟩; have hX6 := hX5.grown hg6 (by intro e; injection e; omega); have hl6 := hs6.lt; have hN6 := hN5.grown hg6 (by intro e; injection e; omega); have hz6 := hN6.lt; have n0 := hN6.cell 0; have n1 := hN6.cell 1; have n2 := hN6.cell 2; simp at n0 n1 n2)
          | (go_at_call 12; have _t := hz6; refine (nothing_is _ _ _ true _ nothing_quiet).mono ?_; rintro e w7 ⟨rfl, hb7⟩; have hs7 := (hs6.alloc _).call hb7; have hX7 := (hX6.alloc _).below hb7 (by have := hX6.lt; simp; omega); have hM7 := (Blk.new w6 27 #[.string code, .string ka, .bool false]).below hb7 (by simp); have m0 := hM7.cell 0; have m1 := hM7.cell 1; have m2 := hM7.cell 2; simp at m0 m1 m2; clear n0 n1 n2 hz6)
          | (go_at_call 11; refine (tick_ses (s := ⟨2, 5, 1 + m, 2, (k - 1) % (1 + m), 0, 0⟩) ⟨2, 5, 1 + m, 2, k % (1 + m), 0, 0⟩ { data := #[48, 48, 49] } { data := #[] } false hs7 (wait_bd _ _ (by omega) (by omega)) (signs_tick0 (1 + m) k (by omega) (by simpa using hz)).1 (signs_tick0 (1 + m) k (by omega) (by simpa using hz)).2).mono ?_; rintro e w8 ⟨rfl, hs8, hg8⟩; have hX8 := Blk.grown hX7 hg8 (by intro e; injection e; omega); have t0 := hX8.cell 0; have t1 := hX8.cell 1; have t2 := hX8.cell 2; have g0 := hX8.frozen 0; have g1 := hX8.frozen 1; have g2 := hX8.frozen 2; simp at t0 t1 t2; have hl8 := hX8.lt)
          | (go_at_call 12; have _t := hl8; refine (nothing_is _ _ _ false _ nothing_001).mono ?_; rintro e w9 ⟨rfl, hb9⟩; have hs9 := (((hs8.far (g := gx) (i := 0) (by omega) hBx _).far (g := gx) (i := 1) (by omega) hBx _).far (g := gx) (i := 2) (by omega) hBx _).call hb9; have hX9 := (hX8.store3 _ _ _).below hb9 (by simp [World.setCell]; omega); have v0 := hX9.cell 0; have v1 := hX9.cell 1; have v2 := hX9.cell 2; simp at v0 v1 v2; clear hl8)
          | (go_at_call 17; refine (asks_is _ _ _ _ true _ asks_001).mono ?_; rintro e w10 ⟨rfl, hb10⟩; have hs10 := hs9.call hb10; have hX10 := hX9.below hb10 hX9.lt)
          | (go_at_call 13; refine (state_ses 2 hs10 rfl).mono ?_; rintro e w' ⟨rfl, rfl⟩)
          | (go_at_call 18; refine (ready_ses false hs10 rfl).mono ?_; rintro e w' ⟨rfl, rfl⟩))
        go_roundw
        case rel => exact ⟨k + 1, _, _, _, by omega, by omega, by go_num, by rw [Int.add_sub_cancel]; exact hs10, hX10⟩
        case measure => simp [intOf]; omega
      · have tok1 : True := trivial
        go_wp2_with (first
          | (go_at_call_of 9 (Value.int IntKind.i64 d); refine (pick_is d 9 r _ l3 l4 (by omega) (by omega) HR.out).mono ?_; rintro e w' ⟨rfl, rfl⟩; have tk := tok1; clear tok1)
          | (go_at_call_of 9 (Value.int IntKind.i64 e); refine (pick_is e 7 p _ l5 l6 (by omega) (by omega) HP.out).mono ?_; rintro e w' ⟨rfl, rfl⟩)
          | (go_at_call 16; refine (answered_ses (s := ⟨2, 5, 1 + m, 2, (k - 1) % (1 + m), 0, 0⟩) _ _ ⟨2, 5, 1 + m, 2, (k - 1) % (1 + m), 0, 0⟩ hs (HA _).out).mono ?_; rintro e w4 ⟨rfl, hs4, hg4⟩; have hX4 := hX.grown hg4 (by intro e; injection e; omega); have hl4 := hs4.lt; have hN4 := Blk.new w4 27 #[.string { data := #[] }, .string { data := #[] }, .bool false])
          | (go_at_call 14; refine (heard_ses (s := ⟨2, 5, 1 + m, 2, (k - 1) % (1 + m), 0, 0⟩) ⟨2, 5, 1 + m, 2, (k - 1) % (1 + m), 0, 0⟩ (hs4.alloc _) (by simp [heardS])).mono ?_; rintro e w5 ⟨rfl, hs5, hg5⟩; have hX5 := (hX4.alloc _).grown hg5 (by intro e; injection e; omega); have hN5 := hN4.grown hg5 (by intro e; injection e; omega))
          | (go_at_call 15; refine (asked_ses (s := ⟨2, 5, 1 + m, 2, (k - 1) % (1 + m), 0, 0⟩) _ ⟨2, 5, 1 + m, 2, (k - 1) % (1 + m), 0, 0⟩ _ _ _ hs5 (.inr rfl) (HK _).out (HY.out _)).mono ?_; rintro e w6 ⟨rfl, hs6, hg6⟩; have hX6 := hX5.grown hg6 (by intro e; injection e; omega); have hl6 := hs6.lt; have hN6 := hN5.grown hg6 (by intro e; injection e; omega); have hz6 := hN6.lt; have n0 := hN6.cell 0; have n1 := hN6.cell 1; have n2 := hN6.cell 2; simp at n0 n1 n2)
          | (go_at_call 12; have _t := hz6; refine (nothing_is _ _ _ true _ nothing_quiet).mono ?_; rintro e w7 ⟨rfl, hb7⟩; have hs7 := (hs6.alloc _).call hb7; have hX7 := (hX6.alloc _).below hb7 (by have := hX6.lt; simp; omega); have hM7 := (Blk.new w6 27 #[.string code, .string ka, .bool false]).below hb7 (by simp); have m0 := hM7.cell 0; have m1 := hM7.cell 1; have m2 := hM7.cell 2; simp at m0 m1 m2; clear n0 n1 n2 hz6)
          | (go_at_call 11; refine (tick_ses (s := ⟨2, 5, 1 + m, 2, (k - 1) % (1 + m), 0, 0⟩) ⟨2, 5, 1 + m, 2, k % (1 + m), 0, 0⟩ { data := #[] } { data := #[] } false hs7 (wait_bd _ _ (by omega) (by omega)) (signs_tick (1 + m) k (by omega) (by simpa using hz)).1 (signs_tick (1 + m) k (by omega) (by simpa using hz)).2).mono ?_; rintro e w8 ⟨rfl, hs8, hg8⟩; have hX8 := Blk.grown hX7 hg8 (by intro e; injection e; omega); have t0 := hX8.cell 0; have t1 := hX8.cell 1; have t2 := hX8.cell 2; have g0 := hX8.frozen 0; have g1 := hX8.frozen 1; have g2 := hX8.frozen 2; simp at t0 t1 t2; have hl8 := hX8.lt)
          | (go_at_call 12; have _t := hl8; refine (nothing_is _ _ _ true _ nothing_quiet).mono ?_; rintro e w9 ⟨rfl, hb9⟩; have hs9 := (((hs8.far (g := gx) (i := 0) (by omega) hBx _).far (g := gx) (i := 1) (by omega) hBx _).far (g := gx) (i := 2) (by omega) hBx _).call hb9; have hX9 := (hX8.store3 _ _ _).below hb9 (by simp [World.setCell]; omega); have v0 := hX9.cell 0; have v1 := hX9.cell 1; have v2 := hX9.cell 2; simp at v0 v1 v2; clear hl8)
          | (go_at_call 13; refine (state_ses 2 hs9 rfl).mono ?_; rintro e w' ⟨rfl, rfl⟩)
          | (go_at_call 18; refine (ready_ses false hs9 rfl).mono ?_; rintro e w' ⟨rfl, rfl⟩))
        go_roundw
        case rel => exact ⟨k + 1, _, _, _, by omega, by omega, by go_num, by rw [Int.add_sub_cancel]; exact hs9, hX9⟩
        case measure => simp [intOf]; omega
    · rcases Bool.eq_false_or_eq_true (k % (1 + m) == 0) with hz | hz
      · have tok1 : True := trivial
        go_wp2_with (first
          | (go_at_call_of 9 (Value.int IntKind.i64 d); refine (pick_is d 9 r _ l3 l4 (by omega) (by omega) HR.out).mono ?_; rintro e w' ⟨rfl, rfl⟩; have tk := tok1; clear tok1)
          | (go_at_call_of 9 (Value.int IntKind.i64 e); refine (pick_is e 7 p _ l5 l6 (by omega) (by omega) HP.out).mono ?_; rintro e w' ⟨rfl, rfl⟩)
          | (go_at_call 11; refine (tick_ses (s := ⟨2, 5, 1 + m, 2, (k - 1) % (1 + m), 0, 0⟩) ⟨2, 5, 1 + m, 2, k % (1 + m), 0, 0⟩ { data := #[48, 48, 49] } { data := #[] } false hs (wait_bd _ _ (by omega) (by omega)) (signs_tick0 (1 + m) k (by omega) (by simpa using hz)).1 (signs_tick0 (1 + m) k (by omega) (by simpa using hz)).2).mono ?_; rintro e w8 ⟨rfl, hs8, hg8⟩; have hX8 := Blk.grown hX hg8 (by intro e; injection e; omega); have t0 := hX8.cell 0; have t1 := hX8.cell 1; have t2 := hX8.cell 2; have g0 := hX8.frozen 0; have g1 := hX8.frozen 1; have g2 := hX8.frozen 2; simp at t0 t1 t2; have hl8 := hX8.lt)
          | (go_at_call 12; have _t := hl8; refine (nothing_is _ _ _ false _ nothing_001).mono ?_; rintro e w9 ⟨rfl, hb9⟩; have hs9 := (((hs8.far (g := gx) (i := 0) (by omega) hBx _).far (g := gx) (i := 1) (by omega) hBx _).far (g := gx) (i := 2) (by omega) hBx _).call hb9; have hX9 := (hX8.store3 _ _ _).below hb9 (by simp [World.setCell]; omega); have v0 := hX9.cell 0; have v1 := hX9.cell 1; have v2 := hX9.cell 2; simp at v0 v1 v2; clear hl8)
          | (go_at_call 17; refine (asks_is _ _ _ _ true _ asks_001).mono ?_; rintro e w10 ⟨rfl, hb10⟩; have hs10 := hs9.call hb10; have hX10 := hX9.below hb10 hX9.lt)
          | (go_at_call 13; refine (state_ses 2 hs10 rfl).mono ?_; rintro e w' ⟨rfl, rfl⟩)
          | (go_at_call 18; refine (ready_ses false hs10 rfl).mono ?_; rintro e w' ⟨rfl, rfl⟩))
        go_roundw
        case rel => exact ⟨k + 1, _, _, _, by omega, by omega, by go_num, by rw [Int.add_sub_cancel]; exact hs10, hX10⟩
        case measure => simp [intOf]; omega
      · have tok1 : True := trivial
        go_wp2_with (first
          | (go_at_call_of 9 (Value.int IntKind.i64 d); refine (pick_is d 9 r _ l3 l4 (by omega) (by omega) HR.out).mono ?_; rintro e w' ⟨rfl, rfl⟩; have tk := tok1; clear tok1)
          | (go_at_call_of 9 (Value.int IntKind.i64 e); refine (pick_is e 7 p _ l5 l6 (by omega) (by omega) HP.out).mono ?_; rintro e w' ⟨rfl, rfl⟩)
          | (go_at_call 11; refine (tick_ses (s := ⟨2, 5, 1 + m, 2, (k - 1) % (1 + m), 0, 0⟩) ⟨2, 5, 1 + m, 2, k % (1 + m), 0, 0⟩ { data := #[] } { data := #[] } false hs (wait_bd _ _ (by omega) (by omega)) (signs_tick (1 + m) k (by omega) (by simpa using hz)).1 (signs_tick (1 + m) k (by omega) (by simpa using hz)).2).mono ?_; rintro e w8 ⟨rfl, hs8, hg8⟩; have hX8 := Blk.grown hX hg8 (by intro e; injection e; omega); have t0 := hX8.cell 0; have t1 := hX8.cell 1; have t2 := hX8.cell 2; have g0 := hX8.frozen 0; have g1 := hX8.frozen 1; have g2 := hX8.frozen 2; simp at t0 t1 t2; have hl8 := hX8.lt)
          | (go_at_call 12; have _t := hl8; refine (nothing_is _ _ _ true _ nothing_quiet).mono ?_; rintro e w9 ⟨rfl, hb9⟩; have hs9 := (((hs8.far (g := gx) (i := 0) (by omega) hBx _).far (g := gx) (i := 1) (by omega) hBx _).far (g := gx) (i := 2) (by omega) hBx _).call hb9; have hX9 := (hX8.store3 _ _ _).below hb9 (by simp [World.setCell]; omega); have v0 := hX9.cell 0; have v1 := hX9.cell 1; have v2 := hX9.cell 2; simp at v0 v1 v2; clear hl8)
          | (go_at_call 13; refine (state_ses 2 hs9 rfl).mono ?_; rintro e w' ⟨rfl, rfl⟩)
          | (go_at_call 18; refine (ready_ses false hs9 rfl).mono ?_; rintro e w' ⟨rfl, rfl⟩))
        go_roundw
        case rel => exact ⟨k + 1, _, _, _, by omega, by omega, by go_num, by rw [Int.add_sub_cancel]; exact hs9, hX9⟩
        case measure => simp [intOf]; omega

set_option maxRecDepth 100000 in
set_option maxHeartbeats 3200000 in
theorem signs_d (c d e : Int) (code other : ByteArray) (m r p : Int) (w : World) (l1 : -9223372036854775808 ≤ c) (l2 : c ≤ 9223372036854775807) (l3 : -9223372036854775808 ≤ d) (l4 : d ≤ 9223372036854775807) (l5 : -9223372036854775808 ≤ e) (l6 : e ≤ 9223372036854775807)
    (hm : pickP c 200 = m) (hr : pickP d 9 = r) (hp : pickP e 7 = p) (hm0 : 0 ≤ m) (hm1 : m < 200) (hr0 : 0 ≤ r) (hr1 : r < 9) (hp0 : 0 ≤ p) (hp1 : p < 7) (hc : (code.toList == [48, 48, 49]) = false)
    (hd : (code.toList == [48, 48, 50]) = true) :
    Calls Try.prog 5 #[.int .i64 c, .int .i64 d, .string code, .string other, .int .i64 e] w fun e w' => e = .returned (.bool true) ∧ Below w.heap.size w w' := by
  have HM := Lib.hid hm
  have HR := Lib.hid hr
  have HP := Lib.hid hp
  have q0 : 0 ≤ (1 + m) * r := Int.mul_nonneg (by omega) (by omega)
  have q1 : (1 + m) * r ≤ 1800 := by
    have a := Int.mul_le_mul_of_nonneg_left (show r ≤ 9 by omega) (show 0 ≤ 1 + m by omega)
    omega
  have HA : ∀ x : Int, Hid (answeredS ⟨2, 5, 1 + m, 2, x, 0, 0⟩ code.toList (ByteArray.toList other) = ⟨2, 5, 1 + m, 2, x, 0, 0⟩) := by
    intro x
    show _ = _
    have hc' : ¬ code.toList = [48, 48, 49] := by simpa using hc
    simp [answeredS, heardS, hc']
  have HK : ∀ x : Int, Hid (askedS ⟨2, 5, 1 + m, 2, x, 0, 0⟩ (ByteArray.toList { data := #[51, 48, 49] }) = ⟨2, 5, 1 + m, 2, x, 0, 0⟩) := by
    intro x
    show _ = _
    simp [askedS, heardS, ByteArray.toList_eq]
  obtain ⟨ka, HY, HZ⟩ : ∃ ka : ByteArray, Hid (∀ x : Int, askedY ⟨2, 5, 1 + m, 2, x, 0, 0⟩ { data := #[51, 48, 49] } = ⟨{ data := #[51, 48, 49] }, ka, false⟩) ∧ ka.toList.isEmpty = false := by
    refine ⟨askedA ⟨2, 5, 1 + m, 2, 0, 0, 0⟩ (ByteArray.toList { data := #[51, 48, 49] }), ?_, ?_⟩
    · show ∀ x : Int, _
      intro x
      simp [askedY, askedA]
    · unfold askedA; split <;> simp [c00, c12, ByteArray.toList_eq]
  clear hm hr hp
  go_enter Try.func5, Try.ntmps5
  go_wp2_with (first
    | (go_at_call_of 9 (Value.int IntKind.i64 c); refine (pick_is c 200 m _ l1 l2 (by omega) (by omega) HM.out).mono ?_; rintro e w' ⟨rfl, rfl⟩)
    | (go_at_call 19; refine (new_ses (B := w.heap.size) (w0 := w) 2 5 (1 + m) _ (Nat.le_refl _) (Below.refl _ _) (.inr rfl) (by omega) (by omega) (by omega) (by omega)).mono ?_; rintro e w1 ⟨b, hbe, rfl, hs1, hb1⟩; have HB := Lib.hid hbe; clear hbe)
    | (go_at_call 20; refine (up_ses (s := ⟨2, 5, 1 + m, 0, 0, 0, 0⟩) ⟨2, 5, 1 + m, 2, 0, 0, 0⟩ { data := #[48, 48, 49] } { data := #[] } false hs1 (.inr rfl) rfl rfl).mono ?_; rintro e w2 ⟨rfl, hs2, hg2⟩)
    | (go_at_call 17; refine (asks_is _ _ _ _ true _ asks_001).mono ?_; rintro e w3 ⟨rfl, hb3⟩; have hs3 := (hs2.alloc _).call hb3; have hX3 : Blk w3 w2.heap.size 27 #[.string { data := #[48, 48, 49] }, .string { data := #[] }, .bool false] := (Blk.new w2 27 _).below hb3 (by simp); have hne3 : b < w2.heap.size := hs2.lt))
  obtain ⟨gx, hgx⟩ : ∃ gx, gx = w2.heap.size := ⟨_, rfl⟩
  rw [← hgx] at hX3 hne3
  rw [← hgx]
  have HGX := Lib.hid hgx
  have hBx : w.heap.size ≤ gx := by have := hs1.2.1; omega
  clear hgx hb3 hg2 hs2 hs1 hb1 HB
  go_loopw [17] (fun i wr => ∃ (k : Int) (x0 x1 : ByteArray) (x2 : Bool), 1 ≤ k ∧ k ≤ (1 + m) * r + 1 ∧ i = .int .i64 k ∧ Ses w.heap.size w b ⟨2, 5, 1 + m, 2, (k - 1) % (1 + m), 0, 0⟩ wr ∧ Blk wr gx 27 #[.string x0, .string x1, .bool x2]) (fun i _ => ((1 + m) * r + 1 - intOf i).toNat)
  case atStart => exact ⟨1, _, _, _, by omega, by omega, rfl, by simpa using hs3, hX3⟩
  case round =>
    obtain ⟨k, x0, x1, x2, hk0, hk1, rfl, hs, hX⟩ := hrel
    clear hs3 hX3
    by_cases hout : (1 + m) * r < k
    · go_wp2_with (first
        | (go_at_call_of 9 (Value.int IntKind.i64 d); refine (pick_is d 9 r _ l3 l4 (by omega) (by omega) HR.out).mono ?_; rintro e w' ⟨rfl, rfl⟩)
        | (go_at_call 16; refine (answered_ses (s := ⟨2, 5, 1 + m, 2, (k - 1) % (1 + m), 0, 0⟩) _ _ ⟨2, 5, 1 + m, 3, (k - 1) % (1 + m), 0, 0⟩ hs (by simp [answeredS, heardS, ByteArray.toList_eq])).mono ?_; rintro e w4 ⟨rfl, hs4, hg4⟩)
        | (go_at_call 12; refine (nothing_is _ _ _ true _ nothing_quiet).mono ?_; rintro e w5 ⟨rfl, hb5⟩; have hs5 := (hs4.alloc _).call hb5)
        | (go_at_call 13; refine (state_ses 3 hs5 rfl).mono ?_; rintro e w' ⟨rfl, rfl⟩)
        | (go_at_call 18; refine (ready_ses true hs5 rfl).mono ?_; rintro e w' ⟨rfl, rfl⟩))
      go_ret
      exact ⟨rfl, hs5.2.2.1⟩
    have hd1 : 0 < 1 + p := by omega
    rcases Bool.eq_false_or_eq_true (k % (1 + p) == 0) with hhit | hhit
    · rcases Bool.eq_false_or_eq_true (k % (1 + m) == 0) with hz | hz
      · have tok1 : True := trivial
        go_wp2_with (first
          | (go_at_call_of 9 (Value.int IntKind.i64 d); refine (pick_is d 9 r _ l3 l4 (by omega) (by omega) HR.out).mono ?_; rintro e w' ⟨rfl, rfl⟩; have tk := tok1; clear tok1)
          | (go_at_call_of 9 (Value.int IntKind.i64 e); refine (pick_is e 7 p _ l5 l6 (by omega) (by omega) HP.out).mono ?_; rintro e w' ⟨rfl, rfl⟩)
          | (go_at_call 16; refine (answered_ses (s := ⟨2, 5, 1 + m, 2, (k - 1) % (1 + m), 0, 0⟩) _ _ ⟨2, 5, 1 + m, 2, (k - 1) % (1 + m), 0, 0⟩ hs (HA _).out).mono ?_; rintro e w4 ⟨rfl, hs4, hg4⟩; have hX4 := hX.grown hg4 (by intro e; injection e; omega); have hl4 := hs4.lt; have hN4 := Blk.new w4 27 #[.string { data := #[] }, .string { data := #[] }, .bool false])
          | (go_at_call 14; refine (heard_ses (s := ⟨2, 5, 1 + m, 2, (k - 1) % (1 + m), 0, 0⟩) ⟨2, 5, 1 + m, 2, (k - 1) % (1 + m), 0, 0⟩ (hs4.alloc _) (by simp [heardS])).mono ?_; rintro e w5 ⟨rfl, hs5, hg5⟩; have hX5 := (hX4.alloc _).grown hg5 (by intro e; injection e; omega); have hN5 := hN4.grown hg5 (by intro e; injection e; omega))
          | (go_at_call 15; refine (asked_ses (s := ⟨2, 5, 1 + m, 2, (k - 1) % (1 + m), 0, 0⟩) _ ⟨2, 5, 1 + m, 2, (k - 1) % (1 + m), 0, 0⟩ _ _ _ hs5 (.inr rfl) (HK _).out (HY.out _)).mono ?_; rintro e w6 ⟨rfl, hs6, hg6⟩; have hX6 := hX5.grown hg6 (by intro e; injection e; omega); have hl6 := hs6.lt; have hN6 := hN5.grown hg6 (by intro e; injection e; omega); have hz6 := hN6.lt; have n0 := hN6.cell 0; have n1 := hN6.cell 1; have n2 := hN6.cell 2; simp at n0 n1 n2)
          | (go_at_call 12; have _t := hz6; refine (nothing_is _ _ _ true _ nothing_quiet).mono ?_; rintro e w7 ⟨rfl, hb7⟩; have hs7 := (hs6.alloc _).call hb7; have hX7 := (hX6.alloc _).below hb7 (by have := hX6.lt; simp; omega); have hM7 := (Blk.new w6 27 #[.string { data := #[51, 48, 49] }, .string ka, .bool false]).below hb7 (by simp); have m0 := hM7.cell 0; have m1 := hM7.cell 1; have m2 := hM7.cell 2; simp at m0 m1 m2; clear n0 n1 n2 hz6)
          | (go_at_call 11; refine (tick_ses (s := ⟨2, 5, 1 + m, 2, (k - 1) % (1 + m), 0, 0⟩) ⟨2, 5, 1 + m, 2, k % (1 + m), 0, 0⟩ { data := #[48, 48, 49] } { data := #[] } false hs7 (wait_bd _ _ (by omega) (by omega)) (signs_tick0 (1 + m) k (by omega) (by simpa using hz)).1 (signs_tick0 (1 + m) k (by omega) (by simpa using hz)).2).mono ?_; rintro e w8 ⟨rfl, hs8, hg8⟩; have hX8 := Blk.grown hX7 hg8 (by intro e; injection e; omega); have t0 := hX8.cell 0; have t1 := hX8.cell 1; have t2 := hX8.cell 2; have g0 := hX8.frozen 0; have g1 := hX8.frozen 1; have g2 := hX8.frozen 2; simp at t0 t1 t2; have hl8 := hX8.lt)
          | (go_at_call 12; have _t := hl8; refine (nothing_is _ _ _ false _ nothing_001).mono ?_; rintro e w9 ⟨rfl, hb9⟩; have hs9 := (((hs8.far (g := gx) (i := 0) (by omega) hBx _).far (g := gx) (i := 1) (by omega) hBx _).far (g := gx) (i := 2) (by omega) hBx _).call hb9; have hX9 := (hX8.store3 _ _ _).below hb9 (by simp [World.setCell]; omega); have v0 := hX9.cell 0; have v1 := hX9.cell 1; have v2 := hX9.cell 2; simp at v0 v1 v2; clear hl8)
          | (go_at_call 17; refine (asks_is _ _ _ _ true _ asks_001).mono ?_; rintro e w10 ⟨rfl, hb10⟩; have hs10 := hs9.call hb10; have hX10 := hX9.below hb10 hX9.lt)
          | (go_at_call 13; refine (state_ses 2 hs10 rfl).mono ?_; rintro e w' ⟨rfl, rfl⟩)
          | (go_at_call 18; refine (ready_ses false hs10 rfl).mono ?_; rintro e w' ⟨rfl, rfl⟩))
        go_roundw
        case rel => exact ⟨k + 1, _, _, _, by omega, by omega, by go_num, by rw [Int.add_sub_cancel]; exact hs10, hX10⟩
        case measure => simp [intOf]; omega
      · have tok1 : True := trivial
        go_wp2_with (first
          | (go_at_call_of 9 (Value.int IntKind.i64 d); refine (pick_is d 9 r _ l3 l4 (by omega) (by omega) HR.out).mono ?_; rintro e w' ⟨rfl, rfl⟩; have tk := tok1; clear tok1)
          | (go_at_call_of 9 (Value.int IntKind.i64 e); refine (pick_is e 7 p _ l5 l6 (by omega) (by omega) HP.out).mono ?_; rintro e w' ⟨rfl, rfl⟩)
          | (go_at_call 16; refine (answered_ses (s := ⟨2, 5, 1 + m, 2, (k - 1) % (1 + m), 0, 0⟩) _ _ ⟨2, 5, 1 + m, 2, (k - 1) % (1 + m), 0, 0⟩ hs (HA _).out).mono ?_; rintro e w4 ⟨rfl, hs4, hg4⟩; have hX4 := hX.grown hg4 (by intro e; injection e; omega); have hl4 := hs4.lt; have hN4 := Blk.new w4 27 #[.string { data := #[] }, .string { data := #[] }, .bool false])
          | (go_at_call 14; refine (heard_ses (s := ⟨2, 5, 1 + m, 2, (k - 1) % (1 + m), 0, 0⟩) ⟨2, 5, 1 + m, 2, (k - 1) % (1 + m), 0, 0⟩ (hs4.alloc _) (by simp [heardS])).mono ?_; rintro e w5 ⟨rfl, hs5, hg5⟩; have hX5 := (hX4.alloc _).grown hg5 (by intro e; injection e; omega); have hN5 := hN4.grown hg5 (by intro e; injection e; omega))
          | (go_at_call 15; refine (asked_ses (s := ⟨2, 5, 1 + m, 2, (k - 1) % (1 + m), 0, 0⟩) _ ⟨2, 5, 1 + m, 2, (k - 1) % (1 + m), 0, 0⟩ _ _ _ hs5 (.inr rfl) (HK _).out (HY.out _)).mono ?_; rintro e w6 ⟨rfl, hs6, hg6⟩; have hX6 := hX5.grown hg6 (by intro e; injection e; omega); have hl6 := hs6.lt; have hN6 := hN5.grown hg6 (by intro e; injection e; omega); have hz6 := hN6.lt; have n0 := hN6.cell 0; have n1 := hN6.cell 1; have n2 := hN6.cell 2; simp at n0 n1 n2)
          | (go_at_call 12; have _t := hz6; refine (nothing_is _ _ _ true _ nothing_quiet).mono ?_; rintro e w7 ⟨rfl, hb7⟩; have hs7 := (hs6.alloc _).call hb7; have hX7 := (hX6.alloc _).below hb7 (by have := hX6.lt; simp; omega); have hM7 := (Blk.new w6 27 #[.string { data := #[51, 48, 49] }, .string ka, .bool false]).below hb7 (by simp); have m0 := hM7.cell 0; have m1 := hM7.cell 1; have m2 := hM7.cell 2; simp at m0 m1 m2; clear n0 n1 n2 hz6)
          | (go_at_call 11; refine (tick_ses (s := ⟨2, 5, 1 + m, 2, (k - 1) % (1 + m), 0, 0⟩) ⟨2, 5, 1 + m, 2, k % (1 + m), 0, 0⟩ { data := #[] } { data := #[] } false hs7 (wait_bd _ _ (by omega) (by omega)) (signs_tick (1 + m) k (by omega) (by simpa using hz)).1 (signs_tick (1 + m) k (by omega) (by simpa using hz)).2).mono ?_; rintro e w8 ⟨rfl, hs8, hg8⟩; have hX8 := Blk.grown hX7 hg8 (by intro e; injection e; omega); have t0 := hX8.cell 0; have t1 := hX8.cell 1; have t2 := hX8.cell 2; have g0 := hX8.frozen 0; have g1 := hX8.frozen 1; have g2 := hX8.frozen 2; simp at t0 t1 t2; have hl8 := hX8.lt)
          | (go_at_call 12; have _t := hl8; refine (nothing_is _ _ _ true _ nothing_quiet).mono ?_; rintro e w9 ⟨rfl, hb9⟩; have hs9 := (((hs8.far (g := gx) (i := 0) (by omega) hBx _).far (g := gx) (i := 1) (by omega) hBx _).far (g := gx) (i := 2) (by omega) hBx _).call hb9; have hX9 := (hX8.store3 _ _ _).below hb9 (by simp [World.setCell]; omega); have v0 := hX9.cell 0; have v1 := hX9.cell 1; have v2 := hX9.cell 2; simp at v0 v1 v2; clear hl8)
          | (go_at_call 13; refine (state_ses 2 hs9 rfl).mono ?_; rintro e w' ⟨rfl, rfl⟩)
          | (go_at_call 18; refine (ready_ses false hs9 rfl).mono ?_; rintro e w' ⟨rfl, rfl⟩))
        go_roundw
        case rel => exact ⟨k + 1, _, _, _, by omega, by omega, by go_num, by rw [Int.add_sub_cancel]; exact hs9, hX9⟩
        case measure => simp [intOf]; omega
    · rcases Bool.eq_false_or_eq_true (k % (1 + m) == 0) with hz | hz
      · have tok1 : True := trivial
        go_wp2_with (first
          | (go_at_call_of 9 (Value.int IntKind.i64 d); refine (pick_is d 9 r _ l3 l4 (by omega) (by omega) HR.out).mono ?_; rintro e w' ⟨rfl, rfl⟩; have tk := tok1; clear tok1)
          | (go_at_call_of 9 (Value.int IntKind.i64 e); refine (pick_is e 7 p _ l5 l6 (by omega) (by omega) HP.out).mono ?_; rintro e w' ⟨rfl, rfl⟩)
          | (go_at_call 11; refine (tick_ses (s := ⟨2, 5, 1 + m, 2, (k - 1) % (1 + m), 0, 0⟩) ⟨2, 5, 1 + m, 2, k % (1 + m), 0, 0⟩ { data := #[48, 48, 49] } { data := #[] } false hs (wait_bd _ _ (by omega) (by omega)) (signs_tick0 (1 + m) k (by omega) (by simpa using hz)).1 (signs_tick0 (1 + m) k (by omega) (by simpa using hz)).2).mono ?_; rintro e w8 ⟨rfl, hs8, hg8⟩; have hX8 := Blk.grown hX hg8 (by intro e; injection e; omega); have t0 := hX8.cell 0; have t1 := hX8.cell 1; have t2 := hX8.cell 2; have g0 := hX8.frozen 0; have g1 := hX8.frozen 1; have g2 := hX8.frozen 2; simp at t0 t1 t2; have hl8 := hX8.lt)
          | (go_at_call 12; have _t := hl8; refine (nothing_is _ _ _ false _ nothing_001).mono ?_; rintro e w9 ⟨rfl, hb9⟩; have hs9 := (((hs8.far (g := gx) (i := 0) (by omega) hBx _).far (g := gx) (i := 1) (by omega) hBx _).far (g := gx) (i := 2) (by omega) hBx _).call hb9; have hX9 := (hX8.store3 _ _ _).below hb9 (by simp [World.setCell]; omega); have v0 := hX9.cell 0; have v1 := hX9.cell 1; have v2 := hX9.cell 2; simp at v0 v1 v2; clear hl8)
          | (go_at_call 17; refine (asks_is _ _ _ _ true _ asks_001).mono ?_; rintro e w10 ⟨rfl, hb10⟩; have hs10 := hs9.call hb10; have hX10 := hX9.below hb10 hX9.lt)
          | (go_at_call 13; refine (state_ses 2 hs10 rfl).mono ?_; rintro e w' ⟨rfl, rfl⟩)
          | (go_at_call 18; refine (ready_ses false hs10 rfl).mono ?_; rintro e w' ⟨rfl, rfl⟩))
        go_roundw
        case rel => exact ⟨k + 1, _, _, _, by omega, by omega, by go_num, by rw [Int.add_sub_cancel]; exact hs10, hX10⟩
        case measure => simp [intOf]; omega
      · have tok1 : True := trivial
        go_wp2_with (first
          | (go_at_call_of 9 (Value.int IntKind.i64 d); refine (pick_is d 9 r _ l3 l4 (by omega) (by omega) HR.out).mono ?_; rintro e w' ⟨rfl, rfl⟩; have tk := tok1; clear tok1)
          | (go_at_call_of 9 (Value.int IntKind.i64 e); refine (pick_is e 7 p _ l5 l6 (by omega) (by omega) HP.out).mono ?_; rintro e w' ⟨rfl, rfl⟩)
          | (go_at_call 11; refine (tick_ses (s := ⟨2, 5, 1 + m, 2, (k - 1) % (1 + m), 0, 0⟩) ⟨2, 5, 1 + m, 2, k % (1 + m), 0, 0⟩ { data := #[] } { data := #[] } false hs (wait_bd _ _ (by omega) (by omega)) (signs_tick (1 + m) k (by omega) (by simpa using hz)).1 (signs_tick (1 + m) k (by omega) (by simpa using hz)).2).mono ?_; rintro e w8 ⟨rfl, hs8, hg8⟩; have hX8 := Blk.grown hX hg8 (by intro e; injection e; omega); have t0 := hX8.cell 0; have t1 := hX8.cell 1; have t2 := hX8.cell 2; have g0 := hX8.frozen 0; have g1 := hX8.frozen 1; have g2 := hX8.frozen 2; simp at t0 t1 t2; have hl8 := hX8.lt)
          | (go_at_call 12; have _t := hl8; refine (nothing_is _ _ _ true _ nothing_quiet).mono ?_; rintro e w9 ⟨rfl, hb9⟩; have hs9 := (((hs8.far (g := gx) (i := 0) (by omega) hBx _).far (g := gx) (i := 1) (by omega) hBx _).far (g := gx) (i := 2) (by omega) hBx _).call hb9; have hX9 := (hX8.store3 _ _ _).below hb9 (by simp [World.setCell]; omega); have v0 := hX9.cell 0; have v1 := hX9.cell 1; have v2 := hX9.cell 2; simp at v0 v1 v2; clear hl8)
          | (go_at_call 13; refine (state_ses 2 hs9 rfl).mono ?_; rintro e w' ⟨rfl, rfl⟩)
          | (go_at_call 18; refine (ready_ses false hs9 rfl).mono ?_; rintro e w' ⟨rfl, rfl⟩))
        go_roundw
        case rel => exact ⟨k + 1, _, _, _, by omega, by omega, by go_num, by rw [Int.add_sub_cancel]; exact hs9, hX9⟩
        case measure => simp [intOf]; omega

theorem signs_walk (c : Int) (l1 : -9223372036854775808 ≤ c) (l2 : c ≤ 9223372036854775807) (d : Int) (l3 : -9223372036854775808 ≤ d) (l4 : d ≤ 9223372036854775807) (code : ByteArray) (_ : code.size ≤ maxLen) (other : ByteArray) (_ : other.size ≤ maxLen)
    (e : Int) (l5 : -9223372036854775808 ≤ e) (l6 : e ≤ 9223372036854775807) (w : World) :
    Calls Try.prog 5 #[.int .i64 c, .int .i64 d, .string code, .string other, .int .i64 e] w fun e w' => e = .returned (.bool true) ∧ Below w.heap.size w w' := by
  have a0 := pickP_lo c 200 (by omega)
  have a1 := pickP_hi c 200 (by omega)
  have b0 := pickP_lo d 9 (by omega)
  have b1 := pickP_hi d 9 (by omega)
  have c0 := pickP_lo e 7 (by omega)
  have c1 := pickP_hi e 7 (by omega)
  by_cases h1 : code.toList = [48, 48, 49]
  · by_cases h2 : other.toList = [48, 48]
    · exact signs_a c d e code other _ _ _ w l1 l2 l3 l4 l5 l6 rfl rfl rfl a0 a1 b0 b1 c0 c1 (by simp [h1]) (by simp [h2]) (by simp [h1])
    · exact signs_b c d e code other _ _ _ w l1 l2 l3 l4 l5 l6 rfl rfl rfl a0 a1 b0 b1 c0 c1 (by simp [h1]) (by simp [h2]) (by simp [h1])
  · by_cases h3 : code.toList = [48, 48, 50]
    · exact signs_d c d e code other _ _ _ w l1 l2 l3 l4 l5 l6 rfl rfl rfl a0 a1 b0 b1 c0 c1 (by simp [h1]) (by simp [h3])
    · exact signs_c c d e code other _ _ _ w l1 l2 l3 l4 l5 l6 rfl rfl rfl a0 a1 b0 b1 c0 c1 (by simp [h1]) (by simp [h3])
end Go.Proofs.Ytcdikjomiomnpaa

